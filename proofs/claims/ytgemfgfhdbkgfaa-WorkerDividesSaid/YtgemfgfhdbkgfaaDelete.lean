import Derived.Test.YtgemfgfhdbkgfaaPairs
import Derived.Maps.RangeWalk
set_option linter.unusedSimpArgs false
set_option linter.unusedVariables false
namespace Go.Proofs.Ytgemfgfhdbkgfaa
open Go.RowKit

/-- 'clear(s)', s a slice of n > 0 elements of two cells: the cells of its part turn, nothing else. -/
theorem run_clear2 {P : Program} (w : World) (t e ty : TypeId) (a b : Value) (ht : P.underlying t = some (.slice e)) (hv : ∀ w, (zeroValue e).run P w = .ok (.agg #[a, b]) w) (hz : (Value.agg #[a, b]).cells = #[a, b]) (h1 : a.oneCell' = true) (h2 : b.oneCell' = true) (g o n c : Nat) (hn : 0 < n)
    (hc : ∀ j, j < n * 2 → (w.cell? ⟨g, o + j, none⟩).isSome = true) (hf : ∀ j, j < n * 2 → w.frozen? ⟨g, o + j, none⟩ = false) :
    ∃ zs : List Value, (Builtin.clear_ #[t] ty #[.slice (some ⟨g, o, none⟩) n c]).run P w = .ok (.tuple #[]) (w.setCells g o zs) := by
  refine ⟨(Builtin.zeroCells #[a, b] n).toList, ?_⟩
  have hlen : (Builtin.zeroCells #[a, b] n).toList.length = n * 2 := by simp [Builtin.zeroCells]
  have hmem : ∀ v ∈ (Builtin.zeroCells #[a, b] n).toList, v.oneCell' = true := by
    intro v hv'
    simp only [Builtin.zeroCells] at hv'
    simp at hv'
    obtain ⟨j, hj, rfl⟩ := hv'
    rcases Nat.mod_two_eq_zero_or_one j with h | h <;> simp [h, h1, h2]
  have hst := run_storeCells_cells (P := P) g o (Builtin.zeroCells #[a, b] n).toList 0 w (by simpa [hlen] using hc) (by simpa [hlen] using hf) hmem
  simp only [Nat.add_zero] at hst
  obtain ⟨m, rfl⟩ : ∃ m, n = m + 1 := ⟨n - 1, by omega⟩
  simp [Builtin.clear_, run_underlying ht, hv, hz, hst]

theorem grownBy_setCells (g : Nat) : ∀ (vs : List Value) (o : Nat) (w : World), w.grownBy (w.setCells g o vs) (some g)
  | [], o, w => World.grownBy.refl _ _
  | v :: vs, o, w => (grownBy_setCell w g o v).trans (grownBy_setCells g vs (o + 1) _)

/-- The state of the loop: the first i pairs of e are those that stay of the first j of d; behind j nothing has turned. -/
structure Stays (d e : List (Int × Int)) (i j : Nat) : Prop where
  len : e.length = d.length
  lt : i < j
  le : j ≤ d.length
  head : e.take i = (d.take j).filter (fun x => !emp x)
  tail : e.drop j = d.drop j

theorem Stays.start {d : List (Int × Int)} {k : Nat} (hk : k < d.length) (h1 : emp d[k] = true) (h2 : ∀ j (hj : j < k), emp (d[j]'(by omega)) = false) : Stays d d k (k + 1) where
  len := rfl
  lt := by omega
  le := hk
  head := by
    rw [List.take_succ_eq_append_getElem hk, List.filter_append, List.filter_eq_self.2]
    · simp [h1]
    · intro x hx
      obtain ⟨j, hj, rfl⟩ := List.getElem_of_mem hx
      simp at hj
      simp [h2 j (by omega)]
  tail := rfl
theorem Stays.get {d e : List (Int × Int)} {i j : Nat} (h : Stays d e i j) (hj : j < d.length) : e[j]'(by rw [h.len]; exact hj) = d[j] := by
  have := congrArg (fun l => l[0]?) h.tail
  simpa [List.getElem?_eq_getElem (show j < e.length by rw [h.len]; exact hj), List.getElem?_eq_getElem hj] using this
theorem Stays.skip {d e : List (Int × Int)} {i j : Nat} (h : Stays d e i j) (hj : j < d.length) (h1 : emp d[j] = true) : Stays d e i (j + 1) where
  len := h.len
  lt := by have := h.lt; omega
  le := hj
  head := by rw [List.take_succ_eq_append_getElem hj, List.filter_append, h.head]; simp [h1]
  tail := by rw [← List.drop_drop, h.tail, List.drop_drop]
theorem Stays.keep {d e : List (Int × Int)} {i j : Nat} (h : Stays d e i j) (hj : j < d.length) (h1 : emp d[j] = false) : Stays d (e.set i d[j]) (i + 1) (j + 1) where
  len := by rw [List.length_set, h.len]
  lt := by have := h.lt; omega
  le := hj
  head := by
    have hi : i < e.length := by rw [h.len]; have := h.lt; omega
    rw [List.take_succ_eq_append_getElem hj, List.filter_append, ← h.head, List.take_succ_eq_append_getElem (by rw [List.length_set]; exact hi), List.getElem_set_self, List.take_set_of_le (Nat.le_refl _)]
    simp [h1]
  tail := by
    have := h.lt
    rw [List.drop_set_of_lt (by omega), ← List.drop_drop, h.tail, List.drop_drop]
theorem Stays.done {d e : List (Int × Int)} {i : Nat} (h : Stays d e i d.length) : e.take i = d.filter (fun x => !emp x) := by rw [h.head, List.take_length]

theorem PairsAt.set2 {w : World} {g : Nat} {e : List (Int × Int)} (h : PairsAt w g e) (i : Nat) (x : Int × Int) : PairsAt ((w.setCell ⟨g, i * 2, none⟩ (.int .i64 x.1)).setCell ⟨g, i * 2 + 1, none⟩ (.int .i64 x.2)) g (e.set i x) where
  c0 := fun k hk => by
    have hk' : k < e.length := by simpa using hk
    rw [World.cell?_setCell_other _ _ _ _ (by simp <;> omega)]
    by_cases hki : k = i
    · subst hki
      rw [World.cell?_setCell_same' _ _ _ (by rw [h.c0 k hk']; rfl)]; simp
    · rw [World.cell?_setCell_other _ _ _ _ (by simp <;> omega), h.c0 k hk', List.getElem_set_ne (Ne.symm hki)]
  c1 := fun k hk => by
    have hk' : k < e.length := by simpa using hk
    by_cases hki : k = i
    · subst hki
      rw [World.cell?_setCell_same' _ _ _ (by rw [World.cell?_setCell_other _ _ _ _ (by simp), h.c1 k hk']; rfl)]; simp
    · rw [World.cell?_setCell_other _ _ _ _ (by simp <;> omega), World.cell?_setCell_other _ _ _ _ (by simp <;> omega), h.c1 k hk', List.getElem_set_ne (Ne.symm hki)]
  f0 := fun k hk => by rw [World.frozen?_setCell, World.frozen?_setCell]; exact h.f0 k (by simpa using hk)
  f1 := fun k hk => by rw [World.frozen?_setCell, World.frozen?_setCell]; exact h.f1 k (by simpa using hk)
theorem PairsAt.front {w : World} {g : Nat} {e : List (Int × Int)} (h : PairsAt w g e) (i : Nat) (zs : List Value) : PairsAt (w.setCells g (i * 2) zs) g (e.take i) where
  c0 := fun k hk => by
    have hk' : k < i ∧ k < e.length := by rw [List.length_take, Nat.lt_min] at hk; exact hk
    rw [World.cell?_setCells_out _ _ _ _ _ (fun _ _ => Or.inl (by show k * 2 < i * 2; omega)), h.c0 k hk'.2]; simp
  c1 := fun k hk => by
    have hk' : k < i ∧ k < e.length := by rw [List.length_take, Nat.lt_min] at hk; exact hk
    rw [World.cell?_setCells_out _ _ _ _ _ (fun _ _ => Or.inl (by show k * 2 + 1 < i * 2; omega)), h.c1 k hk'.2]; simp
  f0 := fun k hk => by
    have hk' : k < i ∧ k < e.length := by rw [List.length_take, Nat.lt_min] at hk; exact hk
    rw [World.frozen?_setCells]; exact h.f0 k hk'.2
  f1 := fun k hk => by
    have hk' : k < i ∧ k < e.length := by rw [List.length_take, Nat.lt_min] at hk; exact hk
    rw [World.frozen?_setCells]; exact h.f1 k hk'.2

set_option maxHeartbeats 1000000 in
theorem delete_any (w : World) (g : Nat) (d : List (Int × Int)) (p : Option Addr) (cap : Nat) (hp : 0 < d.length → p = some ⟨g, 0, none⟩) (h : PairsAt w g d) (hcap : d.length ≤ cap) (hcap' : d.length ≤ 4611686018427387903) :
    Calls Try.prog 33 #[.slice p d.length cap, .func (.func 34) #[] #[]] w fun e w' => w.grownBy w' (some g) ∧
      e = .returned (.slice p (d.filter fun x => !emp x).length cap) ∧ PairsAt w' g (d.filter fun x => !emp x) := by
  have eg := enters_empty
  go_enter Try.func33, Try.ntmps33
  go_wp2_with fail
  refine (index_any w g d p cap hp h hcap hcap').mono ?_
  rintro e w1 ⟨hb, ⟨rfl, hall⟩ | ⟨k, rfl, hk, hk1, hk2⟩⟩
  · have HA := Lib.hid hall
    clear hall
    go_wp2
    go_ret
    have hf : d.filter (fun x => !emp x) = d := List.filter_eq_self.2 fun x hx => by simp [HA.out x hx]
    rw [hf]
    exact ⟨hb.but _, rfl, h.grown hb⟩
  · obtain rfl := hp (by omega)
    have HS : Hid (Stays d d k (k + 1)) := Lib.hid (Stays.start hk hk1 hk2)
    have hP := h.grown hb
    clear hk1 hk2 h hp
    have hne1 : ((k : Int) == -1) = false := beq_eq_false_iff_ne.2 (by omega)
    go_wp2
    go_loopw [5, 6] (fun a b wr => ∃ (i j : Nat) (e : List (Int × Int)), a = .int .i64 (i : Int) ∧ b = .int .i64 (j : Int) ∧ Hid (Stays d e i j) ∧ PairsAt wr g e ∧ w.grownBy wr (some g)) (fun _ b _ => d.length - (intOf b).toNat)
    case atStart => exact ⟨k, k + 1, d, rfl, by go_num, HS, hP, hb.but _⟩
    case round =>
      obtain ⟨i, j, e, rfl, rfl, HS, hP, hb⟩ := hrel
      have hle := HS.out.le
      have hlt' := HS.out.lt
      have hlen := HS.out.len
      by_cases hlt : j < d.length
      · have c0 := hP.c0 j (by omega)
        have c1 := hP.c1 j (by omega)
        rw [HS.out.get hlt] at c0 c1
        obtain ⟨x, hx⟩ : ∃ x, x = d[j] := ⟨_, rfl⟩
        rw [← hx] at c0 c1
        have HX := Lib.hid hx
        clear hx
        go_wp2_with fail
        have hg : g < wr.heap.size := World.block_lt_of_cell? wr _ c0
        refine (empty_any x _).mono ?_
        rintro e' w2 ⟨rfl, hb2⟩
        have hb3 : wr.grownBy w2 none := (World.grownBy_alloc wr _ none).trans hb2
        have v0 : w2.cell? ⟨wr.heap.size, 0, none⟩ = some (.int .i64 x.1) := hb2.cell (by rw [RX.cell_alloc]; simp) (by simp)
        have v1 : w2.cell? ⟨wr.heap.size, 1, none⟩ = some (.int .i64 x.2) := hb2.cell (by rw [RX.cell_alloc]; simp) (by simp)
        have hP2 := hP.grown hb3
        have d0 := hP2.c0 i (by omega)
        have d1 := hP2.c1 i (by omega)
        have g0 := hP2.f0 i (by omega)
        have g1 := hP2.f1 i (by omega)
        obtain ⟨y, hy⟩ : ∃ y, y = e[i] := ⟨_, rfl⟩
        rw [← hy] at d0 d1
        clear hy
        have hb4 : w.grownBy w2 (some g) := hb.trans (hb3.but _)
        have hgs : g ≠ wr.heap.size := by omega
        clear hb2 hb3 hb c0 c1 hP
        cases he : emp x
        · have HE := Lib.hid he
          clear he
          go_wp2
          go_roundw
          case rel => exact ⟨i + 1, j + 1, e.set i x, by go_num, by go_num, Lib.hid (by rw [HX.out]; exact HS.out.keep hlt (by rw [← HX.out]; exact HE.out)), hP2.set2 i x, hb4.trans ((grownBy_setCell _ _ _ _).trans (grownBy_setCell _ _ _ _))⟩
          case measure => simp [intOf]; omega
        · have HE := Lib.hid he
          clear he
          go_wp2
          go_roundw
          case rel => exact ⟨i, j + 1, e, rfl, by go_num, Lib.hid (HS.out.skip hlt (by rw [← HX.out]; exact HE.out)), hP2, hb4⟩
          case measure => simp [intOf]; omega
      · obtain rfl : j = d.length := by omega
        have hcl : ∀ ty, ∃ zs, (Builtin.clear_ #[59] ty #[.slice (some ⟨g, i * 2, none⟩) (d.length - i) (cap - i)]).run Try.prog wr = .ok (.tuple #[]) (wr.setCells g (i * 2) zs) := fun ty =>
          run_clear2 wr _ _ ty (.int .i64 0) (.int .i64 0) Try.underlying59 Try.zeroValue60 rfl rfl rfl g (i * 2) _ _ (by omega)
            (fun t ht => by
              rcases Nat.mod_two_eq_zero_or_one t with h2 | h2
              · rw [show i * 2 + t = (i + t / 2) * 2 by omega, hP.c0 (i + t / 2) (by omega)]; rfl
              · rw [show i * 2 + t = (i + t / 2) * 2 + 1 by omega, hP.c1 (i + t / 2) (by omega)]; rfl)
            (fun t ht => by
              rcases Nat.mod_two_eq_zero_or_one t with h2 | h2
              · rw [show i * 2 + t = (i + t / 2) * 2 by omega, hP.f0 (i + t / 2) (by omega)]
              · rw [show i * 2 + t = (i + t / 2) * 2 + 1 by omega, hP.f1 (i + t / 2) (by omega)])
        obtain ⟨zs, hcl⟩ := hcl 0
        go_wp2
        go_ret
        have hd := HS.out.done
        rw [← hd]
        refine ⟨hb.trans (grownBy_setCells _ _ _ _), ?_, hP.front i zs⟩
        simp only [List.length_take]
        rw [Nat.min_eq_left (by omega)]
        rfl
end Go.Proofs.Ytgemfgfhdbkgfaa
