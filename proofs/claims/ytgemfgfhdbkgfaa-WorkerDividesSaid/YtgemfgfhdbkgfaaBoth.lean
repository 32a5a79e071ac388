import Derived.Test.YtgemfgfhdbkgfaaParts
import Derived.Test.YtgemfgfhdbkgfaaMod
set_option linter.unusedSimpArgs false
set_option linter.unusedVariables false
theorem Go.RX.wpl_app {P : Go.Program} {ops : Array Go.Oper} {rest : List Go.Oper} {o : Go.Oper} {a : Go.Act} {w : Go.World} {Q : Go.Exit → Go.Act → Go.World → Prop} {t e : Go.TypeId} {z : Go.Value} {size bytes : Nat} (hgd : o.guard = none) (E : Go.RX.ElemOf P t e z size bytes) (s x : Go.Operand)
    (ho : o.op = .call { callee := .builtin .append, args := #[s, x], argTypes := #[t, t] }) (base : Nat)
    (v : Go.Value) (n : Nat) (xs : List Go.Value) (hown : w.ownsRow base e size v n xs) (hs : a.eval s = v)
    (B : Nat) (cs : Array Go.Value) (m : Nat) (hx : a.eval x = .slice (some ⟨B, 0, none⟩) m m) (hB : w.heap[B]? = some (.cells cs e (0, 0))) (hc : cs.size = m * size) (h1 : ∀ u ∈ cs.toList, u.oneCell' = true)
    (hbytes : (n + m) * bytes ≤ 140737488355328) (hn : n + m ≤ 140737488355328) (hbase : base ≤ w.heap.size)
    (h : ∀ v' w', w'.ownsRow base e size v' (n + m) (xs ++ cs.toList) → Go.RowKit.Below base w w' → w.grownBy w' v.ownBlock → (v'.ownBlock = v.ownBlock ∨ v'.ownBlock = some w.heap.size) → Go.wpList P ops Q rest (a.put o.dst v') w') : Go.wpList P ops Q (o :: rest) a w := by
  refine Go.wpList_plain hgd fun K hK => ?_
  exact Go.RX.wp_app E s x ho base v n xs hown hs B cs m hx hB hc h1 hbytes hn hbase (fun v' w' a b c d => hK _ _ (h v' w' a b c d))
theorem Go.RX.bneB (b : Bool) : Go.Value.bool (b != b) = Go.Value.bool false := by simp
namespace Go.Proofs.Ytgemfgfhdbkgfaa
open Go.RowKit

open Classical in
/-- How many parts there are, and the error. -/
noncomputable def divN (x y z : Int) : Nat := if DivOk x y z then z.toNat else 0
open Classical in
noncomputable def divE (x y z : Int) : Int := if DivOk x y z then 0 else 1
theorem divN_le (x y z : Int) : divN x y z ≤ 16 := by
  unfold divN
  split
  · rename_i h; have := h.2.2.2.2; omega
  · omega

theorem divEN (x y z : Int) : (divE x y z = 0 ∧ 0 < divN x y z) ∨ (divE x y z = 1 ∧ divN x y z = 0) := by
  unfold divE divN
  by_cases h : DivOk x y z
  · have := h.2.2.2.2.1
    exact .inl ⟨if_pos h, by rw [if_pos h]; omega⟩
  · exact .inr ⟨if_neg h, if_neg h⟩

/-- What a division is, whoever makes it. -/
def Divided (x y z : Int) (w : World) (e : Ending) (w' : World) : Prop :=
  ∃ (p : Option Addr) (gb c : Nat), e = .returned (.tuple #[.slice p (divN x y z) c, .int .i64 (divE x y z)]) ∧ Row w' w.heap.size (.slice p (divN x y z) c) (divN x y z) (partsTo x y z (divN x y z)) ∧ Below w.heap.size w w' ∧
    (0 < divN x y z → p = some ⟨gb, 0, none⟩) ∧ PartsAt w' gb 0 (ptsOf x y z (divN x y z)) ∧ divN x y z ≤ c ∧ (0 < divN x y z → w.heap.size ≤ gb ∧ gb < w'.heap.size)

theorem divided_of {x y z : Int} {w : World} {e : Ending} {w' : World} (h : DivOk x y z) (hd : ∃ v, e = .returned (.tuple #[v, .int .i64 0]) ∧ w'.ownsRow w.heap.size 28 4 v z.toNat (partsTo x y z z.toNat) ∧ Below w.heap.size w w') : Divided x y z w e w' := by
  obtain ⟨v, rfl, hown, hb⟩ := hd
  have e1 : divN x y z = z.toNat := if_pos h
  have e2 : divE x y z = 0 := if_pos h
  have hz : 1 ≤ z := h.2.2.2.2.1
  unfold Divided
  rw [e1, e2]
  have hown' := hown
  rcases hown'.2 with ⟨rfl, h0⟩ | ⟨g, c, cur, rfl, hbase, hg, hn, hm, hs, ht⟩
  · omega
  · exact ⟨some ⟨g, 0, none⟩, g, c, rfl, ⟨hown, ints_parts x y z _⟩, hb, fun _ => rfl, parts_of_division hown, hn, fun _ => ⟨hbase, (Array.getElem?_eq_some_iff.1 hg).1⟩⟩
theorem divided_no {x y z : Int} {w : World} (h : ¬ DivOk x y z) : Divided x y z w (.returned (.tuple #[.slice none 0 0, .int .i64 1])) w := by
  have e1 : divN x y z = 0 := if_neg h
  have e2 : divE x y z = 1 := if_neg h
  unfold Divided
  rw [e1, e2]
  exact ⟨none, 0, 0, rfl, ⟨World.ownsRow_nil _ _ _ _, fun u hu => by cases hu⟩, Below.refl _ _, by omega, ⟨fun k hk => by simp [ptsOf] at hk, fun k hk => by simp [ptsOf] at hk, fun k hk => by simp [ptsOf] at hk, fun k hk => by simp [ptsOf] at hk⟩, by omega, by omega⟩
theorem divide_any (x y z : Int) (w : World) : Calls Try.prog 7 #[.int .i64 x, .int .i64 y, .int .i64 z] w (Divided x y z w) := by
  by_cases h : DivOk x y z
  · exact (divide_ok x y z w h.1 h.2.1 h.2.2.1 h.2.2.2.1 h.2.2.2.2.1 h.2.2.2.2.2).mono fun e w' hd => divided_of h hd
  · refine (divide_no x y z w h).mono ?_
    rintro e w' ⟨rfl, rfl⟩
    exact divided_no h
theorem refDivide_any (x y z : Int) (w : World) : Calls Try.prog 15 #[.int .i64 x, .int .i64 y, .int .i64 z] w (Divided x y z w) := by
  by_cases h : DivOk x y z
  · exact (refDivide_ok x y z w h.1 h.2.1 h.2.2.1 h.2.2.2.1 h.2.2.2.2.1 h.2.2.2.2.2).mono fun e w' hd => divided_of h hd
  · refine (refDivide_no x y z w h).mono ?_
    rintro e w' ⟨rfl, rfl⟩
    exact divided_no h
theorem divE_ok {x y z : Int} (h : divE x y z = 0) : checkB (ptsOf x y z (divN x y z)) x y = true := by
  by_cases hd : DivOk x y z
  · rw [show divN x y z = z.toNat from if_pos hd]
    exact division_ok hd
  · rw [show divE x y z = 1 from if_neg hd] at h; omega

theorem checkP_any (w : World) (g o : Nat) (l : List Pt) (p : Option Addr) (cap : Nat) (nodes rows : Int) (hp : 0 < l.length → p = some ⟨g, o, none⟩) (h : PartsAt w g o l) (hcap : l.length ≤ cap) (h31 : l.length ≤ 1000) :
    Calls Try.prog 16 #[.slice p l.length cap, .int .i64 nodes, .int .i64 rows] w fun e w' => Below w.heap.size w w' ∧ e = .returned (.bool (checkB l nodes rows)) := check_any w g o l p cap nodes rows hp h hcap h31

/-- What stands behind the law's loop. -/
structure Scene (w : World) (g b Z : Nat) (L : List Int) (T : Nat → Nat → Int) (wr : World) : Prop where
  below : Below w.heap.size w wr
  reader : ∃ j, CodesAt wr g b L j
  tri : ∀ k, k < 3 → wr.cell? ⟨Z, k * 3, none⟩ = some (.int .i64 (T k 0)) ∧ wr.cell? ⟨Z, k * 3 + 1, none⟩ = some (.int .i64 (T k 1)) ∧ wr.cell? ⟨Z, k * 3 + 2, none⟩ = some (.int .i64 (T k 2))
theorem Scene.step {w : World} {g b Z : Nat} {L : List Int} {T : Nat → Nat → Int} {wr w' : World} (h : Scene w g b Z L T wr) (hb : Below wr.heap.size wr w') : Scene w g b Z L T w' where
  below := h.below.trans (hb.mono h.below.size)
  reader := by obtain ⟨j, hj⟩ := h.reader; exact ⟨j, hj.below hb⟩
  tri := fun k hk => ⟨RX.keep hb (h.tri k hk).1, RX.keep hb (h.tri k hk).2.1, RX.keep hb (h.tri k hk).2.2⟩
theorem Scene.other {w : World} {g b Z k : Nat} {L : List Int} {T : Nat → Nat → Int} {wr w' : World} (h : Scene w g b Z L T wr) (hb : wr.grownBy w' (some k)) (h0 : w.heap.size ≤ k) (h1 : g ≠ k) (h2 : 0 < L.length → b ≠ k) (h3 : Z ≠ k) : Scene w g b Z L T w' where
  below := h.below.grown hb h.below.size (fun j hj => by injection hj with hj; omega)
  reader := by obtain ⟨j, hj⟩ := h.reader; exact ⟨j, hj.grown' hb h1 h2⟩
  tri := fun m hm => ⟨hb.cell (h.tri m hm).1 (by simpa using h3), hb.cell (h.tri m hm).2.1 (by simpa using h3), hb.cell (h.tri m hm).2.2 (by simpa using h3)⟩
theorem Scene.read {w : World} {g b Z : Nat} {L : List Int} {T : Nat → Nat → Int} {wr w' : World} (h : Scene w g b Z L T wr) (hb : wr.grownBy w' (some g)) (h0 : w.heap.size ≤ g) (h3 : Z ≠ g) (hC : ∃ j, CodesAt w' g b L j) : Scene w g b Z L T w' where
  below := h.below.grown hb h.below.size (fun j hj => by injection hj with hj; omega)
  reader := hC
  tri := fun m hm => ⟨hb.cell (h.tri m hm).1 (by simpa using h3), hb.cell (h.tri m hm).2.1 (by simpa using h3), hb.cell (h.tri m hm).2.2 (by simpa using h3)⟩
end Go.Proofs.Ytgemfgfhdbkgfaa
