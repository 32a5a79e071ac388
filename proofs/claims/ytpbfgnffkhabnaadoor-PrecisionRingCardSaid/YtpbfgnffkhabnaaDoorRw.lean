import Derived.Test.YtpbfgnffkhabnaaDoorRx
import Derived.WalkKit
import Derived.Deep.AppendLies
import Derived.Deep.Draws
set_option linter.unusedSimpArgs false
set_option linter.unusedVariables false
namespace Go.RX
open Go.RowKit

/-- What is asked of a slice type and its elements. -/
structure ElemOf (P : Program) (t e : TypeId) (z : Value) (size bytes : Nat) : Prop where
  ht : P.underlying t = some (.slice e)
  hi : (P.info? e).map (fun i => (i.zero, i.size, i.bytes)) = some (some z, size, bytes)
  hz : z.cells.size = size
  pos : 0 < size

theorem wp_app {P : Program} {o : Oper} {a : Act} {w : World} {K : Act → World → Prop} {Q : Exit → Act → World → Prop} {t e : TypeId} {z : Value} {size bytes : Nat} (E : ElemOf P t e z size bytes) (s x : Operand)
    (ho : o.op = .call { callee := .builtin .append, args := #[s, x], argTypes := #[t, t] }) (base : Nat)
    (v : Value) (n : Nat) (xs : List Value) (hown : w.ownsRow base e size v n xs) (hs : a.eval s = v)
    (B : Nat) (cs : Array Value) (m : Nat) (hx : a.eval x = .slice (some ⟨B, 0, none⟩) m m) (hB : w.heap[B]? = some (.cells cs e (0, 0))) (hc : cs.size = m * size) (h1 : ∀ u ∈ cs.toList, u.oneCell' = true)
    (hbytes : (n + m) * bytes ≤ 140737488355328) (hn : n + m ≤ 140737488355328) (hbase : base ≤ w.heap.size)
    (h : ∀ v' w', w'.ownsRow base e size v' (n + m) (xs ++ cs.toList) → Below base w w' → w.grownBy w' v.ownBlock → (v'.ownBlock = v.ownBlock ∨ v'.ownBlock = some w.heap.size) → K (a.put o.dst v') w') : o.wp P a w K Q := by
  obtain ⟨i0, hi, hz, hsize, hby⟩ := info_parts E.hi
  subst hs
  obtain ⟨v', w', hrun, h2, h3, _, h5⟩ := run_append_own_at (P := P) w base t o.type e i0 z size bytes E.ht hi hz hsize hby E.hz E.pos _ n xs hown ⟨B, 0, none⟩ m m cs.toList (by simpa using hc) (World.news_of_block hB) h1 (by unfold maxLen; omega) hbytes hbase
  unfold Oper.wp execOp
  simp only [ho, resolve, invoke, builtin, Sem.run_bind, Sem.run_pure, Result.andThen_ok, List.map_toArray, List.map_cons, List.map_nil, hx, hrun]
  exact h v' w' h2 ((Below.refl _ _).grown h3 hbase (fun k hk => (hown.lt k hk).1)) h3 h5

/-- What a cell holds behind a new block. -/
theorem cell_alloc (w : World) (c : Array Value) (t : TypeId) (f : Nat × Nat) (b j : Nat) : (w.alloc (.cells c t f)).cell? ⟨b, j, none⟩ = if b = w.heap.size then c[j]? else w.cell? ⟨b, j, none⟩ := by
  by_cases h : b = w.heap.size
  · subst h
    rw [if_pos rfl]
    simp only [World.cell?, heap_alloc_new]
    rfl
  · rw [if_neg h]
    rcases Nat.lt_or_ge b w.heap.size with hl | hl
    · exact World.cell?_alloc_lt w _ _ hl
    · have h1 : (w.alloc (.cells c t f)).heap[b]? = none := Array.getElem?_eq_none (by simp; omega)
      have h2 : w.heap[b]? = none := Array.getElem?_eq_none hl
      simp [World.cell?, h1, h2]
/-- A cell that was there when a call began is as it was. -/
theorem keep {w w' : World} {p : Addr} {v : Value} (hb : Below w.heap.size w w') (h : w.cell? p = some v) : w'.cell? p = some v := (hb.cell (World.block_lt_of_cell? w p h)).trans h
theorem frozen_alloc (w : World) (c : Array Value) (t : TypeId) (b j : Nat) : (w.alloc (.cells c t)).frozen? ⟨b, j, none⟩ = if b = w.heap.size then false else w.frozen? ⟨b, j, none⟩ := by
  by_cases h : b = w.heap.size
  · subst h
    rw [if_pos rfl]
    simp only [World.frozen?, heap_alloc_new]
    simp
  · rw [if_neg h]
    refine World.frozen?_of_block ?_
    rcases Nat.lt_or_ge b w.heap.size with hl | hl
    · exact Below.heap_alloc w _ _ hl
    · have h1 : (w.alloc (.cells c t)).heap[b]? = none := Array.getElem?_eq_none (by simp; omega)
      have h2 : w.heap[b]? = none := Array.getElem?_eq_none hl
      show (w.alloc (.cells c t)).heap[b]? = w.heap[b]?
      rw [h1, h2]
theorem frozen_drew (w : World) (p : Addr) : w.drew.frozen? p = w.frozen? p := rfl
theorem cell_drew (w : World) (p : Addr) : w.drew.cell? p = w.cell? p := rfl
end Go.RX
