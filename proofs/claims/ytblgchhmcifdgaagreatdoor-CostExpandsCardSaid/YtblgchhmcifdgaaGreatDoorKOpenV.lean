import Derived.Test.YtblgchhmcifdgaaGreatDoorKRegion
import Derived.Test.YtblgchhmcifdgaaGreatDoorKPoints
import Derived.ProofKit
import Derived.OpenShut
import Derived.Lib.SmallJoins
import Derived.Deep.Slices
set_option linter.unusedSimpArgs false
set_option linter.unusedVariables false
set_option maxRecDepth 100000
namespace Go.Proofs.YtblgchhmcifdgaaGreatDoor
open Go.ChangeShapes Go.WideShapes Go.ChangeAt Go.RowKit Go.Joins Go.Deep

theorem cellsU8 : Tryz.prog.cellsOf 5 = 1 := by kernel_rfl
/-- A list of numbers that came in. -/
theorem open_vec {H : Type} {enc : TypeId × Value → H} {W : World} {r : Reach} {base : Nat} {v : Value} {d : DataW H} {p : List MemPlace} (hval : Value.okWide Tryz.prog W r base 25 v) (h : DataW.Trod enc Tryz.prog W 0 (fun _ => true) true 25 v d p) :
    ∃ (pc : Option Addr) (cap : Nat) (L : List Int), v = .slice pc L.length cap ∧ VecAt W pc L ∧ I64L L ∧ L.length ≤ cap ∧ cap ≤ 9223372036854775807 := by
  obtain ⟨a0, len, cap, rfl⟩ := okWide_slice Tryz.underlying25 hval
  obtain ⟨fuel, hf⟩ := h
  rcases open_ints Tryz.underlying25 Tryz.underlying3 cellsInt hf with ⟨hcs, hx⟩ | ⟨a, len', cap', zs, hcs, _, hl, hm, hz, hx, hcell, hwz⟩
  · simp [Value.cells] at hcs
    obtain ⟨rfl, rfl, rfl⟩ := hcs
    exact ⟨none, 0, [], rfl, ⟨0, 0, by simp, fun k hk => absurd hk (by simp)⟩, fun x hx => absurd hx (by simp), by simp, by omega⟩
  · simp [Value.cells] at hcs
    obtain ⟨rfl, rfl, rfl⟩ := hcs
    simp only [if_true] at hz
    have hlen : (zs.take len).length = len := by simp; omega
    have hmax : maxLen ≤ 9223372036854775807 := by decide
    refine ⟨some a, cap, zs.take len, by rw [hlen], ⟨a.block, a.off, fun h0 => ?_, fun k hk => ?_⟩, fun x hx => ?_, by omega, by omega⟩
    · rw [hlen] at h0
      obtain ⟨ab, ao, spot⟩ := a
      have hspot : spot = none := by simpa [Addr.add] using World.cell?_spot (hcell 0 (by omega))
      subst hspot
      rfl
    · rw [hlen] at hk
      have hc := hcell k (by omega)
      obtain ⟨ab, ao, spot⟩ := a
      have hspot : spot = none := by simpa [Addr.add] using World.cell?_spot (hcell 0 (by omega))
      subst hspot
      have hk2 : k < zs.length := by omega
      have ha : (⟨ab, ao, none⟩ : Addr).add k = ⟨ab, ao + k, none⟩ := by
        unfold Addr.add
        by_cases h0 : k = 0 <;> simp [h0]
      rw [ha] at hc
      have hg : zs.getD k 0 = zs[k] := by simp [List.getD, hk2]
      rw [List.getElem_take, hc, hg]
    · have := bounds_i64 (hwz x (List.mem_of_mem_take hx))
      omega

/-- A place that came in. -/
theorem open_place {H : Type} {enc : TypeId × Value → H} {W : World} {r : Reach} {base : Nat} {v : Value} {d : DataW H} {p : List MemPlace} (hval : Value.okWide Tryz.prog W r base 109 v) (h : DataW.Trod enc Tryz.prog W 0 (fun _ => true) true 109 v d p) :
    ∃ f a b c : Int, v = .agg #[.int .i64 f, .int .i64 a, .int .i64 b, .int .i64 c] := by
  obtain ⟨c0, c1, c2, c3, y0, y1, y2, y3, m, rfl, rfl, rfl, hy0, hy1, hy2, hy3⟩ := open_agg4 Tryz.underlying109 (by kernel_rfl) cellsPl hval h
  obtain ⟨f, e0, rfl, _⟩ := DataW.trod_int Tryz.underlying3 hy0
  obtain ⟨a, e1, rfl, _⟩ := DataW.trod_int Tryz.underlying3 hy1
  obtain ⟨b, e2, rfl, _⟩ := DataW.trod_int Tryz.underlying3 hy2
  obtain ⟨c, e3, rfl, _⟩ := DataW.trod_int Tryz.underlying3 hy3
  simp at e0 e1 e2 e3
  subst e0 e1 e2 e3
  exact ⟨f, a, b, c, rfl⟩

/-- A list of codes that came in. -/
theorem open_codes {H : Type} {enc : TypeId × Value → H} {W : World} {r : Reach} {base : Nat} {v : Value} {d : DataW H} {p : List MemPlace} (hval : Value.okWide Tryz.prog W r base 28 v) (h : DataW.Trod enc Tryz.prog W 0 (fun _ => true) true 28 v d p) :
    ∃ (pc : Option Addr) (cap cb co : Nat) (L : List Int), v = .slice pc L.length cap ∧ (0 < L.length → pc = some ⟨cb, co, none⟩) ∧ L.length ≤ cap ∧ cap ≤ 9223372036854775807 ∧ ∀ k (h : k < L.length), W.cell? ⟨cb, co + k, none⟩ = some (.int .u8 L[k]) ∧ 0 ≤ L[k] ∧ L[k] < 256 := by
  obtain ⟨a0, len, cap, rfl⟩ := okWide_slice Tryz.underlying28 hval
  obtain ⟨fuel, hf⟩ := h
  rcases open_ints Tryz.underlying28 Tryz.underlying5 cellsU8 hf with ⟨hcs, hx⟩ | ⟨a, len', cap', zs, hcs, _, hl, hm, hz, hx, hcell, hwz⟩
  · simp [Value.cells] at hcs
    obtain ⟨rfl, rfl, rfl⟩ := hcs
    exact ⟨none, 0, 0, 0, [], rfl, by simp, by simp, by omega, fun k hk => by simp at hk⟩
  · simp [Value.cells] at hcs
    obtain ⟨rfl, rfl, rfl⟩ := hcs
    simp only [if_true] at hz
    have hlen : (zs.take len).length = len := by simp; omega
    have hmax : maxLen ≤ 9223372036854775807 := by decide
    refine ⟨some a, cap, a.block, a.off, zs.take len, by rw [hlen], fun h0 => ?_, by omega, by omega, fun k hk => ?_⟩
    · rw [hlen] at h0
      obtain ⟨ab, ao, spot⟩ := a
      have hspot : spot = none := by simpa [Addr.add] using World.cell?_spot (hcell 0 (by omega))
      subst hspot
      rfl
    · rw [hlen] at hk
      have hc := hcell k (by omega)
      obtain ⟨ab, ao, spot⟩ := a
      have hspot : spot = none := by simpa [Addr.add] using World.cell?_spot (hcell 0 (by omega))
      subst hspot
      have hk2 : k < zs.length := by omega
      have ha : (⟨ab, ao, none⟩ : Addr).add k = ⟨ab, ao + k, none⟩ := by
        unfold Addr.add
        by_cases h0 : k = 0 <;> simp [h0]
      rw [ha] at hc
      have hg : zs.getD k 0 = zs[k] := by simp [List.getD, hk2]
      have hw := bounds_u8 (hwz zs[k] (List.getElem_mem _))
      rw [List.getElem_take]
      refine ⟨by rw [hc, hg], by omega, by omega⟩

end Go.Proofs.YtblgchhmcifdgaaGreatDoor

set_option linter.unusedSimpArgs false
set_option linter.unusedVariables false
set_option maxRecDepth 100000
namespace Go.Proofs.YtblgchhmcifdgaaGreatDoor
open Go.ChangeShapes Go.WideShapes Go.ChangeAt Go.RowKit Go.Joins Go.Deep

theorem cellsPrec : Tryz.prog.cellsOf 23 = 3 := by kernel_rfl
/-- A precision that came in. -/
theorem open_prec {H : Type} {enc : TypeId × Value → H} {W : World} {r : Reach} {base : Nat} {v : Value} {d : DataW H} {p : List MemPlace} (hval : Value.okWide Tryz.prog W r base 23 v) (h : DataW.Trod enc Tryz.prog W 0 (fun _ => true) true 23 v d p) :
    ∃ f a b : Int, v = .agg #[.int .i64 f, .int .i64 a, .int .i64 b] := by
  obtain ⟨c0, c1, c2, y0, y1, y2, m, rfl, rfl, rfl, hy0, hy1, hy2⟩ := open_agg3 Tryz.underlying23 (by kernel_rfl) cellsPrec hval h
  obtain ⟨f, e0, rfl, _⟩ := DataW.trod_int Tryz.underlying3 hy0
  obtain ⟨a, e1, rfl, _⟩ := DataW.trod_int Tryz.underlying3 hy1
  obtain ⟨b, e2, rfl, _⟩ := DataW.trod_int Tryz.underlying3 hy2
  simp at e0 e1 e2
  subst e0 e1 e2
  exact ⟨f, a, b, rfl⟩
end Go.Proofs.YtblgchhmcifdgaaGreatDoor
