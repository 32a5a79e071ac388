import Derived.Test.YtojkamfabapcoaaGreatDoorKOpenV
import Derived.Test.YtojkamfabapcoaaGreatDoorKCSys
import Derived.ProofKit
import Derived.OpenShut
import Derived.Lib.SmallJoins
import Derived.Deep.Slices
set_option linter.unusedSimpArgs false
set_option linter.unusedVariables false
set_option maxRecDepth 100000
namespace Go.Proofs.YtojkamfabapcoaaGreatDoor
open Go.ChangeShapes Go.WideShapes Go.ChangeAt Go.RowKit Go.Joins Go.Deep

/-! A system that came in. -/
theorem cellsShare : Tryz.prog.cellsOf 90 = 2 := by kernel_rfl
theorem cellsRow : Tryz.prog.cellsOf 45 = 4 := by kernel_rfl
theorem cellsSystem : Tryz.prog.cellsOf 27 = 5 := by kernel_rfl
theorem cellsOne : Tryz.prog.cellsOf 3 = 1 := by kernel_rfl
theorem cellsShs : Tryz.prog.cellsOf 43 = 1 := by kernel_rfl
theorem cellsRows : Tryz.prog.cellsOf 24 = 1 := by kernel_rfl
theorem cellsVec : Tryz.prog.cellsOf 25 = 1 := by kernel_rfl
theorem cellsPrc : Tryz.prog.cellsOf 23 = 3 := by kernel_rfl
theorem gather {α : Type} (len : Nat) (Q : Nat → α → Prop) (h : ∀ i, i < len → ∃ x, Q i x) : ∃ l : List α, l.length = len ∧ ∀ i (hi : i < l.length), Q i l[i] := by
  induction len with
  | zero => exact ⟨[], rfl, fun i hi => absurd hi (by simp)⟩
  | succ n ih =>
    obtain ⟨l, hl, hq⟩ := ih (fun i hi => h i (by omega))
    obtain ⟨x, hx⟩ := h n (by omega)
    refine ⟨l ++ [x], by simp [hl], fun i hi => ?_⟩
    by_cases e : i < l.length
    · rw [List.getElem_append_left e]; exact hq i e
    · have e2 : i = l.length := by simp at hi; omega
      subst e2
      rw [List.getElem_append_right (Nat.le_refl _)]
      simp only [Nat.sub_self, List.getElem_cons_zero]
      rw [hl]; exact hx
theorem add_none (ab ao k : Nat) : (⟨ab, ao, none⟩ : Addr).add k = ⟨ab, ao + k, none⟩ := by
  unfold Addr.add
  by_cases h0 : k = 0 <;> simp [h0]
variable {H : Type} {enc : TypeId × Value → H} {W : World}
theorem open_shs {fuel : Nat} {cs : List Value} {x : DataW H × List MemPlace} (hf : DataW.trod enc Tryz.prog W 0 (fun _ => true) true fuel 43 cs = some x) :
    ∃ (pc : Option Addr) (cap : Nat) (S : List (Int × Int)), cs = [.slice pc S.length cap] ∧ S.length ≤ cap ∧ cap ≤ 9223372036854775807 ∧ ShIn W pc S := by
  rcases open_slice Tryz.underlying43 hf with ⟨rfl, hx⟩ | ⟨a, len, cap, m, n, D, Pl, rfl, _, hl, hm, hmm, hx, hel⟩
  · exact ⟨none, 0, [], rfl, by simp, by omega, ⟨0, 0, by simp, fun k hk => absurd hk (by simp)⟩⟩
  · simp only [if_true] at hmm
    have hmax : maxLen ≤ 9223372036854775807 := by decide
    have each : ∀ i, i < len → ∃ s : Int × Int, W.cell? (a.add (i * 2 + 0)) = some (.int .i64 s.1) ∧ W.cell? (a.add (i * 2 + 1)) = some (.int .i64 s.2) := by
      intro i hi
      obtain ⟨cs', hc, ht⟩ := hel i (by omega)
      rw [cellsShare] at hc
      obtain ⟨y0, y1, n', hx', hln, h0, h1⟩ := trod_struct2 Tryz.underlying90 ht
      obtain ⟨_, hcl, hcc⟩ := World.cells?_some hc
      match cs', hcl with
      | [q0, q1], _ =>
        obtain ⟨b0, e0, _, _⟩ := DataW.trod_int Tryz.underlying3 h0
        obtain ⟨b1, e1, _, _⟩ := DataW.trod_int Tryz.underlying3 h1
        rw [cellsOne] at e0 e1
        simp at e0 e1
        subst e0 e1
        refine ⟨(b0, b1), ?_, ?_⟩ <;> rw [← Go.Deep.add_add]
        · simpa using hcc 0 (by omega)
        · simpa using hcc 1 (by omega)
    obtain ⟨S, hS, hq⟩ := gather len _ each
    refine ⟨some a, cap, S, by rw [hS], by omega, by omega, ?_⟩
    by_cases h0 : 0 < len
    · obtain ⟨ab, ao, spot⟩ := a
      have hspot : spot = none := by
        obtain ⟨s, h1, _⟩ := each 0 h0
        simpa [Addr.add] using World.cell?_spot h1
      subst hspot
      refine ⟨ab, ao, fun _ => rfl, fun k hk => ?_⟩
      have h1 := hq k hk
      simp only [add_none] at h1
      exact ⟨by rw [← h1.1, Nat.add_zero], by rw [← h1.2, Nat.add_assoc]⟩
    · exact ⟨0, 0, fun h => absurd h (by omega), fun k hk => absurd hk (by omega)⟩
theorem open_rws {fuel : Nat} {cs : List Value} {x : DataW H × List MemPlace} (hf : DataW.trod enc Tryz.prog W 0 (fun _ => true) true fuel 24 cs = some x) :
    ∃ (pc : Option Addr) (cap : Nat) (R : List Rw), cs = [.slice pc R.length cap] ∧ R.length ≤ cap ∧ cap ≤ 9223372036854775807 ∧ RwIn W pc R ∧ ∀ r ∈ R, r.sh.length ≤ 9223372036854775807 := by
  rcases open_slice Tryz.underlying24 hf with ⟨rfl, hx⟩ | ⟨a, len, cap, m, n, D, Pl, rfl, _, hl, hm, hmm, hx, hel⟩
  · exact ⟨none, 0, [], rfl, by simp, by omega, ⟨0, 0, by simp, fun k hk => absurd hk (by simp)⟩, by simp⟩
  · simp only [if_true] at hmm
    have hmax : maxLen ≤ 9223372036854775807 := by decide
    have each : ∀ i, i < len → ∃ r : Rw, (∃ q cap, W.cell? (a.add (i * 4 + 0)) = some (.slice q r.sh.length cap) ∧ r.sh.length ≤ cap ∧ ShIn W q r.sh) ∧ W.cell? (a.add (i * 4 + 1)) = some (.int .i64 r.value) ∧ W.cell? (a.add (i * 4 + 2)) = some (.int .i64 r.weight) ∧ W.cell? (a.add (i * 4 + 3)) = some (.int .i64 r.report) ∧ r.sh.length ≤ 9223372036854775807 := by
      intro i hi
      obtain ⟨cs', hc, ht⟩ := hel i (by omega)
      rw [cellsRow] at hc
      obtain ⟨y0, y1, y2, y3, n', hx', hln, h0, h1, h2, h3⟩ := trod_struct4 Tryz.underlying45 ht
      obtain ⟨_, hcl, hcc⟩ := World.cells?_some hc
      match cs', hcl with
      | [q0, q1, q2, q3], _ =>
        obtain ⟨pq, cq, Sq, e0, hc0, hm0, hS0⟩ := open_shs h0
        obtain ⟨b1, e1, _, _⟩ := DataW.trod_int Tryz.underlying3 h1
        obtain ⟨b2, e2, _, _⟩ := DataW.trod_int Tryz.underlying3 h2
        obtain ⟨b3, e3, _, _⟩ := DataW.trod_int Tryz.underlying3 h3
        rw [cellsShs] at e0
        rw [cellsOne] at e1 e2 e3
        simp at e0 e1 e2 e3
        subst e0 e1 e2 e3
        refine ⟨⟨Sq, b1, b2, b3⟩, ⟨pq, cq, ?_, hc0, hS0⟩, ?_, ?_, ?_, by show Sq.length ≤ _; omega⟩ <;> rw [← Go.Deep.add_add]
        · simpa using hcc 0 (by omega)
        · simpa using hcc 1 (by omega)
        · simpa using hcc 2 (by omega)
        · simpa using hcc 3 (by omega)
    obtain ⟨R, hR, hq⟩ := gather len _ each
    refine ⟨some a, cap, R, by rw [hR], by omega, by omega, ?_, fun r hr => ?_⟩
    · by_cases h0 : 0 < len
      · obtain ⟨ab, ao, spot⟩ := a
        have hspot : spot = none := by
          obtain ⟨s, ⟨q, c, h1, _⟩, _⟩ := each 0 h0
          simpa [Addr.add] using World.cell?_spot h1
        subst hspot
        refine ⟨ab, ao, fun _ => rfl, fun k hk => ?_⟩
        obtain ⟨⟨q, c, h1, h2, h3⟩, h4, h5, h6, _⟩ := hq k hk
        simp only [add_none] at h1 h4 h5 h6
        exact ⟨q, c, by rw [← h1, Nat.add_zero], h2, h3, by rw [← h4, Nat.add_assoc], by rw [← h5, Nat.add_assoc], by rw [← h6, Nat.add_assoc]⟩
      · exact ⟨0, 0, fun h => absurd h (by omega), fun k hk => absurd hk (by omega)⟩
    · obtain ⟨k, hk, rfl⟩ := List.mem_iff_getElem.1 hr
      exact (hq k hk).2.2.2.2
/-- A system that came in. -/
theorem open_sys {r : Reach} {base : Nat} {v : Value} {d : DataW H} {p : List MemPlace} (hval : Value.okWide Tryz.prog W r base 27 v) (h : DataW.Trod enc Tryz.prog W 0 (fun _ => true) true 27 v d p) :
    ∃ S : Sy, SysIn W v S ∧ SyLen S := by
  obtain ⟨cs, rfl, hsz⟩ := okWide_struct Tryz.underlying27 hval
  rw [cellsSystem] at hsz
  obtain ⟨fuel, hf⟩ := h
  obtain ⟨y0, y1, y2, n, hx, _, h0, h1, h2⟩ := trod_struct3 Tryz.underlying27 hf
  obtain ⟨z0, z1, z2, n', _, _, g0, g1, g2⟩ := trod_struct3 Tryz.underlying23 h0
  obtain ⟨l, rfl⟩ : ∃ l : List Value, cs = l.toArray := ⟨cs.toList, by simp⟩
  match l, (by simpa using hsz : l.length = 5) with
  | [c0, c1, c2, c3, c4], _ =>
    obtain ⟨f, e0, _, _⟩ := DataW.trod_int Tryz.underlying3 g0
    obtain ⟨s, e1, _, _⟩ := DataW.trod_int Tryz.underlying3 g1
    obtain ⟨a, e2, _, _⟩ := DataW.trod_int Tryz.underlying3 g2
    obtain ⟨pr, cr, R, e3, hcr, hmr, hR, hRl⟩ := open_rws h1
    simp only [Value.cells] at e0 e1 e2 e3 h2
    rw [cellsPrc, cellsOne] at e0 e1 e2
    rw [cellsRows] at e3
    rw [cellsVec] at h2
    simp at e0 e1 e2 e3 h2
    subst e0 e1 e2 e3
    rcases open_ints Tryz.underlying25 Tryz.underlying3 cellsInt h2 with ⟨hcs, _⟩ | ⟨a9, len', cap', zs, hcs, _, hl, hm, hz, _, hcell, hwz⟩
    · simp at hcs
      subst hcs
      exact ⟨⟨f, s, a, R, []⟩, ⟨pr, cr, none, 0, rfl, hcr, by simp, hR, ⟨0, 0, by simp, fun k hk => absurd hk (by simp)⟩⟩, by show R.length ≤ _; omega, by simp, hRl⟩
    · simp at hcs
      obtain ⟨rfl⟩ := hcs
      simp only [if_true] at hz
      have hlen : (zs.take len').length = len' := by simp; omega
      have hmax : maxLen ≤ 9223372036854775807 := by decide
      refine ⟨⟨f, s, a, R, zs.take len'⟩, ⟨pr, cr, some a9, cap', by simp only [hlen], hcr, by simp only [hlen]; exact hl, hR, ⟨a9.block, a9.off, fun h0 => ?_, fun k hk => ?_⟩⟩, by show R.length ≤ _; omega, by show (zs.take len').length ≤ _; omega, hRl⟩
      · simp only [hlen] at h0
        obtain ⟨ab, ao, spot⟩ := a9
        have hspot : spot = none := by simpa [Addr.add] using World.cell?_spot (hcell 0 (by omega))
        subst hspot
        rfl
      · simp only [hlen] at hk
        have hc := hcell k (by omega)
        obtain ⟨ab, ao, spot⟩ := a9
        have hspot : spot = none := by simpa [Addr.add] using World.cell?_spot (hcell 0 (by omega))
        subst hspot
        have hk2 : k < zs.length := by omega
        rw [add_none] at hc
        have hg : zs.getD k 0 = zs[k] := by simp [List.getD, hk2]
        simp only [List.getElem_take]
        rw [hc, hg]
end Go.Proofs.YtojkamfabapcoaaGreatDoor
