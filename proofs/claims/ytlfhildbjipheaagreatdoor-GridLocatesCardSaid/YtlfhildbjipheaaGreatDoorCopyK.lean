import Derived.Test.YtlfhildbjipheaaGreatDoorKRegion
import Derived.Laws.CopyRow
import Derived.Laws.CopyOwn
import Derived.Deep.DeepCutAuto
set_option linter.unusedSimpArgs false
set_option linter.unusedVariables false
namespace Go.RX
open Go.RowKit

/-- copy of whole elements within rows of the call's own. -/
theorem run_copyK {P : Program} (w : World) (dT sT ty elem : TypeId) (size g o dLen dCap : Nat) (D A : Option Addr) (sLen sCap : Nat) (cur : Array Value) (t : TypeId) (cs : List Value) (m : Nat)
    (hu : P.underlying dT = some (.slice elem)) (hs : (P.info? elem).map (·.size) = some size) (hg : w.heap[g]? = some (.cells cur t (0, 0))) (hm : m = Nat.min sLen dLen) (hn : cs.length = m * size)
    (hD : 0 < m → D = some ⟨g, o, none⟩) (hA : 0 < m → ∃ a, A = some a ∧ ∀ j v, cs[j]? = some v → w.cell? (a.add j) = some v) (hfit : o + cs.length ≤ cur.size) (h1 : ∀ v ∈ cs, v.oneCell' = true) :
    (Builtin.copy_ #[dT, sT] ty #[.slice D dLen dCap, .slice A sLen sCap]).run P w = .ok (goInt m) (w.setRow g (cur.toList.take o ++ cs ++ cur.toList.drop (o + cs.length)).toArray) := by
  cases hq : P.info? elem with
  | none => simp [hq] at hs
  | some i =>
    have hi : i.size = size := by simpa [hq] using hs
    rcases Nat.eq_zero_or_pos m with h0 | h0
    · obtain rfl : cs = [] := List.eq_nil_of_length_eq_zero (by rw [hn, h0, Nat.zero_mul])
      have e : w.setRow g (cur.toList.take o ++ [] ++ cur.toList.drop (o + 0)).toArray = w := by
        rw [List.append_nil, Nat.add_zero, List.take_append_drop]; exact setRow_self w g cur t (0, 0) hg
      have hl : ∀ (x : Addr), (loadCells x 0).run P w = .ok #[] w := fun x => by simpa using run_loadCells_list (P := P) w x [] (by simp)
      subst h0
      simp only [List.length_nil]
      rw [e]
      cases D <;> cases A <;> simp [Builtin.copy_, run_underlying hu, Builtin.lenOf, Builtin.firstCells, sizeOf, typeInfo, hq, ← hm, storeCells, hl]
    · obtain rfl := hD h0
      obtain ⟨a, rfl, hc⟩ := hA h0
      have hl := run_loadCells_list (P := P) w a cs hc
      rw [hn] at hl
      have hst := run_storeCells_at P g o t cs 0 cur w hg (by simpa using hfit) h1
      simp [Builtin.copy_, run_underlying hu, Builtin.lenOf, Builtin.firstCells, sizeOf, typeInfo, hq, hi, ← hm, hl, hst]
theorem wp_copyK {P : Program} {o : Oper} {a : Act} {w : World} {K : Act → World → Prop} {Q : Exit → Act → World → Prop} (d s : Operand) (dT sT elem : TypeId)
    (ho : o.op = .call { callee := .builtin .copy, args := #[d, s], argTypes := #[dT, sT] }) (size : Nat) (hu : P.underlying dT = some (.slice elem)) (hs : (P.info? elem).map (·.size) = some size)
    (g off : Nat) (D A : Option Addr) (dLen dCap sLen sCap : Nat) (hd : a.eval d = .slice D dLen dCap) (hsr : a.eval s = .slice A sLen sCap) (cur : Array Value) (t : TypeId) (hg : w.heap[g]? = some (.cells cur t (0, 0)))
    (cs : List Value) (m : Nat) (hm : m = Nat.min sLen dLen) (hn : cs.length = m * size) (hD : 0 < m → D = some ⟨g, off, none⟩) (hA : 0 < m → ∃ a, A = some a ∧ ∀ j v, cs[j]? = some v → w.cell? (a.add j) = some v)
    (hfit : off + cs.length ≤ cur.size) (h1 : ∀ v ∈ cs, v.oneCell' = true)
    (h : K (a.put o.dst (goInt m)) (w.setRow g (cur.toList.take off ++ cs ++ cur.toList.drop (off + cs.length)).toArray)) : o.wp P a w K Q := by
  have hrun := run_copyK (P := P) w dT sT o.type elem size g off dLen dCap D A sLen sCap cur t cs m hu hs hg hm hn hD hA hfit h1
  unfold Oper.wp execOp
  simp only [ho, resolve, invoke, builtin, Sem.run_bind, Sem.run_pure, Result.andThen_ok, List.map_toArray, List.map_cons, List.map_nil, hd, hsr, hrun]
  exact h
end Go.RX
