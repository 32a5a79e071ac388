import Derived.Test.YtpbfgnffkhabnaaDoorNormal
import Derived.Maps.OwnSet
import Derived.Maps.OwnOps
import Derived.DeepKeys4
set_option linter.unusedSimpArgs false
set_option linter.unusedVariables false
namespace Go.Proofs.YtpbfgnffkhabnaaDoor
open Go.RowKit Go.Grid Go.Maps

theorem laidOutP : laidOutB Tryd.prog = true := by kernel_rfl
theorem rowPl : (23 : TypeId) < Tryd.prog.types.size := of_decide_eq_true (by kernel_rfl)
theorem widePl : (match Tryd.prog.underlying 23 with | some (.array _ _) | some (.struct _) => true | _ => false) = true := by kernel_rfl
set_option maxRecDepth 100000 in
theorem lawPl : Keyed Tryd.prog 23 := Keyed.of_law (deep_law_laid laidOutP (m := 3) (by omega) rowPl (by kernel_rfl) widePl)
theorem zeroI (w : World) : (zeroValue 3).run Tryd.prog w = .ok (.int .i64 0) w := by kernel_rfl
theorem keyTypePl : Tryd.prog.keyType 23 = true := by kernel_rfl
theorem cellsPl : Tryd.prog.cellsOf 23 = 4 := by kernel_rfl
theorem cellsInt : Tryd.prog.cellsOf 3 = 1 := by kernel_rfl

/-- Numbers that fit. -/
def Fits (p : Pl) : Prop := p.f ≤ 1000000 ∧ p.a ≤ 1000000 ∧ p.b ≤ 1000000 ∧ p.c ≤ 1000000
theorem Ok.fits {p : Pl} (h : p.Ok) : Fits p := by
  have := h.f; have := h.s; unfold Fits; omega
theorem key_pl (p : Pl) (h : Fits p) : ∃ kl, keyOf Tryd.prog 23 (pv p) = some kl := by
  obtain ⟨h1, h2, h3, h4⟩ := h
  have w1 : (Lit.int .i64 (p.f : Int)).wf = true := WalkArith.wf_i64 (by omega)
  have w2 : (Lit.int .i64 (p.a : Int)).wf = true := WalkArith.wf_i64 (by omega)
  have w3 : (Lit.int .i64 (p.b : Int)).wf = true := WalkArith.wf_i64 (by omega)
  have w4 : (Lit.int .i64 (p.c : Int)).wf = true := WalkArith.wf_i64 (by omega)
  obtain ⟨m, hm⟩ : ∃ m, Tryd.prog.types.size + 1 = m + 2 := ⟨Tryd.prog.types.size - 1, by have h0 : 0 < Tryd.prog.types.size := Nat.lt_of_le_of_lt (Nat.zero_le _) rowPl; omega⟩
  unfold keyOf
  rw [hm]
  simp [Tryd.underlying23, Tryd.underlying3, keyTypePl, Value.formed, Program.keyLits, cellsPl, cellsInt, pv, Value.cells, w1, w2, w3, w4]

theorem pv_inj {p q : Pl} (h : pv p = pv q) : p = q := by
  unfold pv at h
  simp at h
  obtain ⟨h1, h2, h3, h4⟩ := h
  exact Pl.ext' (by omega) (by omega) (by omega) (by omega)

/-- The map at block B tells where each place stands in the list L. -/
def IdxMap (w : World) (B : Nat) (L : List Pl) : Prop := ∃ D : DataW Unit, w.ownsMap Tryd.prog 23 (plainElem Tryd.prog 3) B L.length D ∧
  ∀ q kl, Fits q → keyOf Tryd.prog 23 (pv q) = some kl → D.atKey kl (.lit (.int .i64 0)) = .lit (.int .i64 (((ix L q).getD 0 : Nat) : Int)) ∧ Maps.has D kl = (ix L q).isSome

theorem IdxMap.lt {w : World} {B : Nat} {L : List Pl} (h : IdxMap w B L) : B < w.heap.size := by obtain ⟨D, h, _⟩ := h; exact h.lt
theorem IdxMap.kept {w w' : World} {B : Nat} {L : List Pl} {row : Option Nat} (h : IdxMap w B L) (hg : w.grownBy w' row) (hne : some B ≠ row) : IdxMap w' B L := by
  obtain ⟨D, h1, h2⟩ := h; exact ⟨D, h1.kept hg hne, h2⟩
theorem IdxMap.block {w w' : World} {B : Nat} {L : List Pl} (h : IdxMap w B L) (hb : w'.heap[B]? = w.heap[B]?) : IdxMap w' B L := by
  obtain ⟨D, ⟨es, clock, h1, h2⟩, h3⟩ := h; exact ⟨D, ⟨es, clock, hb.trans h1, h2⟩, h3⟩
theorem IdxMap.below {w w' : World} {B : Nat} {L : List Pl} (h : IdxMap w B L) (hb : Below w.heap.size w w') : IdxMap w' B L := h.block (hb.block _ h.lt)
theorem IdxMap.alloc {w : World} {B : Nat} {L : List Pl} (h : IdxMap w B L) (o : Obj) : IdxMap (w.alloc o) B L := h.kept (World.grownBy_alloc w o none) (by simp)
theorem IdxMap.drew {w : World} {B : Nat} {L : List Pl} (h : IdxMap w B L) : IdxMap w.drew B L := h
theorem IdxMap.made (w : World) : IdxMap (w.alloc (.map #[] 0)) w.heap.size [] :=
  ⟨.map [], World.ownsMap_made _ _ _ _, fun q kl _ _ => ⟨rfl, rfl⟩⟩

theorem put_reads {D : DataW Unit} {L : List Pl} {p : Pl} {kp : Lit} (hm : Maps.IsMap D) (hnot : p ∉ L) (hp : keyOf Tryd.prog 23 (pv p) = some kp)
    (h : ∀ q kl, Fits q → keyOf Tryd.prog 23 (pv q) = some kl → D.atKey kl (.lit (.int .i64 0)) = .lit (.int .i64 (((ix L q).getD 0 : Nat) : Int)) ∧ Maps.has D kl = (ix L q).isSome) :
    ∀ q kl, Fits q → keyOf Tryd.prog 23 (pv q) = some kl → (D.put kp (.lit (.int .i64 ((L.length : Nat) : Int)))).atKey kl (.lit (.int .i64 0)) = .lit (.int .i64 (((ix (L ++ [p]) q).getD 0 : Nat) : Int)) ∧ Maps.has (D.put kp (.lit (.int .i64 ((L.length : Nat) : Int)))) kl = (ix (L ++ [p]) q).isSome := by
  intro q kl hf hq
  have hk : WideAt.IsKeyLit kp := lawPl.key hp
  by_cases hpq : q = p
  · subst hpq
    rw [hp] at hq
    injection hq with hq
    subst hq
    rw [ix_snoc_new hnot, Maps.atKey_put_same hm hk, Maps.has_put_same hm hk]
    exact ⟨rfl, rfl⟩
  · have hne : kl ≠ kp := fun e => hpq (pv_inj (lawPl.inj hq (e ▸ hp)))
    rw [ix_snoc_old hpq, Maps.atKey_put_other hne, Maps.has_put_other hne]
    exact h q kl hf hq
end Go.Proofs.YtpbfgnffkhabnaaDoor
