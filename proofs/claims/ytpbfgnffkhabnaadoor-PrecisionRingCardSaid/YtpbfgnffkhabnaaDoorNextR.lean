import Derived.Test.YtpbfgnffkhabnaaDoorNext
set_option linter.unusedSimpArgs false
set_option linter.unusedVariables false
namespace Go.Proofs.YtpbfgnffkhabnaaDoor
open Go.RowKit Go.Grid Go.Maps Go.Sort Go.Shelf

/-- A slice of numbers, which can be read and written. -/
def RowI (w : World) (v : Value) (zs : List Int) : Prop := ∃ p cap b, v = .slice p zs.length cap ∧ zs.length ≤ cap ∧ (0 < zs.length → p = some ⟨b, 0, none⟩ ∧ v.ownBlock = some b) ∧ IntsAt w b 0 zs
theorem RowI.of_own {w : World} {base : Nat} {v : Value} {zs : List Int} (h : w.ownsRow base 3 1 v zs.length (zs.map (Value.int .i64))) : RowI w v zs := by
  by_cases h0 : 0 < zs.length
  · obtain ⟨g, cap, cur, rfl, hc, _, _⟩ := own_some h h0
    refine ⟨_, cap, g, rfl, hc, fun _ => ⟨rfl, rfl⟩, fun j hj => ⟨?_, ?_⟩⟩
    · rw [Nat.zero_add, h.cellAt j (by omega)]; simp [hj]
    · rw [Nat.zero_add]; exact h.frozenAt j
  · obtain ⟨p, cap, rfl, hc⟩ := own_slice h
    exact ⟨p, cap, 0, rfl, hc, fun h => absurd h h0, fun j hj => absurd (Nat.lt_of_le_of_lt (Nat.zero_le _) hj) h0⟩
theorem RowI.kept {w w' : World} {v : Value} {zs : List Int} (h : RowI w v zs) (hb : ∀ k, v.ownBlock = some k → w'.heap[k]? = w.heap[k]?) : RowI w' v zs := by
  obtain ⟨p, cap, b, h1, h2, h3, h4⟩ := h
  refine ⟨p, cap, b, h1, h2, h3, fun j hj => ?_⟩
  have := hb b (h3 (Nat.lt_of_le_of_lt (Nat.zero_le _) hj)).2
  exact ⟨(World.cell?_of_block this).trans (h4 j hj).1, (World.frozen?_of_block this).trans (h4 j hj).2⟩

/-- A row of M slices of numbers, at block N. -/
def NextR (w : World) (N M base : Nat) (ls : Nat → List Int) : Prop := ∃ vs : Nat → Value, w.rowIs N 24 M vs ∧ (∀ i, i < M → RowI w (vs i) (ls i) ∧ ∀ k, (vs i).ownBlock = some k → base ≤ k ∧ k < w.heap.size) ∧
  (∀ i j, i < M → j < M → i ≠ j → (vs i).ownBlock = none ∨ (vs i).ownBlock ≠ (vs j).ownBlock)
theorem NextR.of_next {w : World} {N M base : Nat} {ls : Nat → List Int} (h : NextAt w N M base ls) : NextR w N M base ls := by
  obtain ⟨vs, h1, h2, h3⟩ := h
  exact ⟨vs, h1, fun i hi => ⟨RowI.of_own (h2 i hi), (h2 i hi).lt⟩, h3⟩
theorem NextR.lt {w : World} {N M base : Nat} {ls : Nat → List Int} (h : NextR w N M base ls) : N < w.heap.size := by
  obtain ⟨vs, h1, _⟩ := h; exact h1.lt
theorem NextR.congr {w : World} {N M base : Nat} {ls ls' : Nat → List Int} (h : NextR w N M base ls) (e : ∀ i, i < M → ls i = ls' i) : NextR w N M base ls' := by
  obtain ⟨vs, h1, h2, h3⟩ := h
  exact ⟨vs, h1, fun i hi => by rw [← e i hi]; exact h2 i hi, h3⟩
theorem NextR.below {w w' : World} {N M base : Nat} {ls : Nat → List Int} (h : NextR w N M base ls) (hb : Below w.heap.size w w') : NextR w' N M base ls := by
  obtain ⟨vs, h1, h2, h3⟩ := h
  refine ⟨vs, h1.of_block (hb.block _ h1.lt), fun i hi => ?_, h3⟩
  obtain ⟨h4, h5⟩ := h2 i hi
  exact ⟨h4.kept (fun k hk => hb.block k (h5 k hk).2), fun k hk => ⟨(h5 k hk).1, Nat.lt_of_lt_of_le (h5 k hk).2 hb.size⟩⟩
def setTo (ls : Nat → List Int) (a : Nat) (zs : List Int) : Nat → List Int := fun i => if i = a then zs else ls i

/-- slices.Sort of one of the rows. -/
theorem sortRow_any {w : World} {N M base : Nat} {ls : Nat → List Int} {vs : Nat → Value} (hN : N < base) (h1 : w.rowIs N 24 M vs) (h2 : ∀ i, i < M → RowI w (vs i) (ls i) ∧ ∀ k, (vs i).ownBlock = some k → base ≤ k ∧ k < w.heap.size)
    (h3 : ∀ i j, i < M → j < M → i ≠ j → (vs i).ownBlock = none ∨ (vs i).ownBlock ≠ (vs j).ownBlock) {a : Nat} (ha : a < M) (hl : (ls a).length ≤ 100000) :
    Calls Tryd.prog 97 #[vs a] w fun e w' => e = .returned (.tuple #[]) ∧ (∃ b, w.grownBy w' (some b) ∧ base ≤ b) ∧ NextR w' N M base (setTo ls a (sorted (ls a))) := by
  obtain ⟨⟨p, cap, b, hv, hc, hp, hI⟩, hlow⟩ := h2 a ha
  have key : ∀ b', (0 < (ls a).length → b' = b) → (∀ k, (vs a).ownBlock = some k → k < w.heap.size ∧ (0 < (ls a).length ∨ b' ≠ k)) → (∀ i, i < M → i ≠ a → (vs i).ownBlock ≠ some b') → base ≤ b' → N ≠ b' →
      Calls Tryd.prog 97 #[vs a] w fun e w' => e = .returned (.tuple #[]) ∧ (∃ b, w.grownBy w' (some b) ∧ base ≤ b) ∧ NextR w' N M base (setTo ls a (sorted (ls a))) := by
    intro b' hb' hown hoth hbase hNb
    rw [hv]
    refine (sortInts_any b' 0 cap p (ls a) w (fun h => by rw [hb' h]; exact (hp h).1) ?_ (by omega)).mono ?_
    · intro j hj
      rw [hb' (Nat.lt_of_le_of_lt (Nat.zero_le _) hj)]
      exact hI j hj
    rintro e w' ⟨rfl, hg, hS⟩
    refine ⟨rfl, ⟨b', hg, hbase⟩, vs, h1.of_block (hg.block N h1.lt (by simpa using hNb)), fun i hi => ?_, h3⟩
    unfold setTo
    by_cases hia : i = a
    · subst hia
      rw [if_pos rfl]
      refine ⟨⟨p, cap, b', by rw [sorted_len]; exact hv, by rw [sorted_len]; exact hc, fun h => ?_, hS⟩, fun k hk => ⟨(hlow k hk).1, Nat.lt_of_lt_of_le (hlow k hk).2 hg.size⟩⟩
      rw [sorted_len] at h
      rw [hb' h]
      exact hp h
    · rw [if_neg hia]
      obtain ⟨h4, h5⟩ := h2 i hi
      exact ⟨h4.kept (fun k hk => hg.block k (h5 k hk).2 (fun e => hoth i hi hia (by rw [hk]; exact e))), fun k hk => ⟨(h5 k hk).1, Nat.lt_of_lt_of_le (h5 k hk).2 hg.size⟩⟩
  by_cases h0 : 0 < (ls a).length
  · obtain ⟨hp1, hp2⟩ := hp h0
    have hb := hlow b hp2
    refine key b (fun _ => rfl) (fun k hk => ⟨(hlow k hk).2, .inl h0⟩) (fun i hi hia e => ?_) hb.1 (by omega)
    rcases h3 i a hi ha hia with h | h
    · rw [h] at e; cases e
    · rw [hp2] at h; exact h e
  · refine key (base + w.heap.size) (fun h => absurd h h0) (fun k hk => ⟨(hlow k hk).2, .inr (by have := (hlow k hk).2; omega)⟩) (fun i hi _ e => ?_) (by omega) (by have := h1.lt; omega)
    have := ((h2 i hi).2 _ e).2
    omega
end Go.Proofs.YtpbfgnffkhabnaaDoor
