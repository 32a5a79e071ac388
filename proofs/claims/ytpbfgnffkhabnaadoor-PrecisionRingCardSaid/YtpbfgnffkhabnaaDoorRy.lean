import Derived.Test.YtpbfgnffkhabnaaDoorRn
set_option linter.unusedSimpArgs false
set_option linter.unusedVariables false
namespace Go.RY

/-- Nothing but a plain way on. -/
def noExit : Exit → Act → World → Prop := fun _ _ _ => False

/-- An operation that calls no Go function. -/
def nocall (o : Oper) : Bool := match o.op with
  | .move _ | .assign _ | .pick .. | .build .. | .load .. | .binOp .. | .unOp .. | .convert .. | .makeFunc .. | .makeInterface .. | .slice .. | .fieldAddr .. | .field .. | .indexAddr .. | .index .. | .lookup .. | .extract .. => true
  | .call { callee := .builtin .len, .. } | .call { callee := .builtin .cap, .. } | .call { callee := .builtin .min, .. } | .call { callee := .builtin .max, .. } => true
  | _ => false

section
variable {P : Program} {ops : Array Oper} {S : World → Prop}

/-- In state 'a', in every world of the class, the operation leaves the value v in its temporary and the world as it was. -/
def Obl (P : Program) (S : World → Prop) (o : Oper) (v : Value) (a : Act) : Prop :=
  ∀ w, S w → ∃ u, (execOp a.eval o).run P w = .ok (.value u) w ∧ ∀ d, o.dst = some d → d < a.tmps.size → u = v

theorem put_eq {o : Oper} {a : Act} {u v : Value} (h : ∀ d, o.dst = some d → d < a.tmps.size → u = v) : a.put o.dst u = a.put o.dst v := by
  cases hd : o.dst with
  | none => rfl
  | some d =>
    by_cases hl : d < a.tmps.size
    · rw [h d hd hl]
    · simp only [Act.put]
      have hl' : a.tmps.size ≤ d := Nat.le_of_not_lt hl
      rw [Array.setIfInBounds_eq_of_size_le hl', Array.setIfInBounds_eq_of_size_le hl']

theorem eq_put {o : Oper} {a : Act} {u v : Value} (h : a.put o.dst u = a.put o.dst v) : ∀ d, o.dst = some d → d < a.tmps.size → u = v := by
  intro d hd hl
  rw [hd] at h
  have h1 : (a.put (some d) u).tmps[d]? = (a.put (some d) v).tmps[d]? := by rw [h]
  simpa [Act.put, hl] using h1

/-- The walk in the order of the text: operations that float (flag true) keep their value in every world of the class, the others are carried out one after the other. -/
def wpG (P : Program) (ops : Array Oper) (S : World → Prop) (Q : Act → World → Prop) : List (Bool × Nat) → Act → World → Prop
  | [], a, w => Q a w
  | (f, i) :: r, a, w =>
    match ops[i]? with
    | none => False
    | some o =>
      if Region.wanted o (yielded ops a.tmps) then
        if f then ∃ v, Obl P S o v a ∧ wpG P ops S Q r (a.put o.dst v) w
        else o.wp P a w (fun a' w' => (r = [] ∨ S w') ∧ wpG P ops S Q r a' w') noExit
      else wpG P ops S Q r (a.put o.dst undef) w

theorem value_of_nocall {o : Oper} (hn : nocall o = true) {ρ : Operand → Value} {w w' : World} {n : Next} (h : (execOp ρ o).run P w = .ok n w') : ∃ u, n = .value u := by
  obtain ⟨dst, op, type, pos, after, guard⟩ := o
  have key : ∀ {α : Type} (s : Sem α) (f : α → Value), (s >>= fun v => pure (Next.value (f v))).run P w = .ok n w' → ∃ u, n = .value u := by
    intro α s f hs
    rw [Sem.run_bind] at hs
    cases hr : s.run P w with
    | ok v w1 => rw [hr] at hs; simp only [Result.andThen_ok, Sem.run_pure] at hs; injection hs with h1; exact ⟨_, h1.symm⟩
    | halt x w1 => rw [hr] at hs; simp [Result.andThen] at hs
  cases op <;> simp only [nocall, Bool.false_eq_true] at hn <;> simp only [execOp] at h
  case call c =>
    obtain ⟨callee, args, argTypes⟩ := c
    cases callee with
    | builtin b => cases b <;> simp only [Bool.false_eq_true] at hn <;> exact key _ id h
    | value f => simp at hn
    | invoke r m => simp at hn
  case pick c a b => exact key _ (fun t : Bool => if t = true then ρ a else ρ b) h
  all_goals first
    | exact key _ id h
    | (rw [Sem.run_pure] at h; injection h with h1; exact ⟨_, h1.symm⟩)

/-- How the walk shows an operation that floats: in a world that is a letter, the rest behind a letter. -/
theorem obl_of_wp {o : Oper} {v : Value} {a : Act} (hn : nocall o = true)
    (h : ∀ w, S w → ∀ K : Act → World → Prop, (∀ a' w', a' = a.put o.dst v → w' = w → K a' w') → o.wp P a w K noExit) : Obl P S o v a := by
  intro w hw
  have h1 := h w hw (fun a' w' => a' = a.put o.dst v ∧ w' = w) (fun _ _ h1 h2 => ⟨h1, h2⟩)
  unfold Oper.wp at h1
  cases hr : (execOp a.eval o).run P w with
  | ok n w' =>
    obtain ⟨u, rfl⟩ := value_of_nocall hn hr
    rw [hr] at h1
    obtain ⟨h2, rfl⟩ := h1
    exact ⟨u, rfl, eq_put h2⟩
  | halt x w' =>
    rw [hr] at h1
    cases x <;> simp only [Oper.upon] at h1
    exact h1.elim

/-- What an operation leaves besides its own temporary. -/
def After (o : Oper) (a a' : Act) : Prop := ∃ u ds, a' = ({ a with defers := ds } : Act).put o.dst u

theorem put_ds (a : Act) (ds : List Deferred) (x : Option Tmp) (v : Value) : (({ a with defers := ds } : Act).put x v) = { a.put x v with defers := ds } := by cases x <;> rfl

theorem wp_after {o : Oper} {a : Act} {w : World} {K : Act → World → Prop} (h : o.wp P a w K noExit) : o.wp P a w (fun a' w' => After o a a' ∧ K a' w') noExit := by
  unfold Oper.wp at *
  generalize (execOp a.eval o).run P w = r at *
  cases r with
  | ok n w' =>
    cases n <;> simp only [Oper.upon] at h ⊢
    case value u => exact ⟨⟨u, _, rfl⟩, h⟩
    case skip => exact ⟨⟨_, _, rfl⟩, h⟩
    case defer d => exact ⟨⟨_, _, rfl⟩, h⟩
    case enter f args =>
      refine Calls.mono h fun e w'' he => ?_
      cases e with
      | returned u => exact ⟨⟨u, _, rfl⟩, he⟩
      | panicked c => exact he
      | outgrown => exact he
    case row row args => exact Rows.mono h fun u w'' he => ⟨⟨u, _, rfl⟩, he⟩
  | halt x w' => cases x <;> simp only [Oper.upon] at h ⊢; exact h

/-- A way on exists. -/
theorem wp_some {o : Oper} {a : Act} {w : World} {K : Act → World → Prop} (h : o.wp P a w K noExit) : ∃ a' w', K a' w' := by
  unfold Oper.wp at h
  generalize (execOp a.eval o).run P w = r at *
  cases r with
  | ok n w' =>
    cases n <;> simp only [Oper.upon] at h
    case value u => exact ⟨_, _, h⟩
    case skip => exact ⟨_, _, h⟩
    case defer d => exact ⟨_, _, h⟩
    case enter f args =>
      obtain ⟨e, w'', fr, hR, _⟩ := h []
      cases e with
      | returned u => exact ⟨_, _, hR⟩
      | panicked c => exact hR.elim
      | outgrown => obtain ⟨_, _, hR⟩ := hR; exact hR.elim
    case row row args =>
      obtain ⟨v, w'', hR, _⟩ := h default []
      exact ⟨_, _, hR⟩
  | halt x w' => cases x <;> simp only [Oper.upon] at h; exact h.elim

/-- The operation oj, carried out where another's temporary has been written already: as where it has not. -/
theorem wp_put {oj : Oper} {x : Option Tmp} {v : Value} {a : Act} {w : World} {K : Act → World → Prop} (hs : ∀ cs b, oj.op ≠ .select cs b)
    (h1 : ∀ d, x = some d → d ∉ oj.looksAt ops) (h2 : ∀ d, x = some d → oj.dst ≠ some d) (h : oj.wp P (a.put x v) w K noExit) :
    oj.wp P a w (fun a' w' => After oj a a' ∧ K (a'.put x v) w') noExit := by
  refine wp_after ?_
  unfold Oper.wp at *
  rw [execOp_put (ops := ops) oj hs a x v h1] at h
  generalize (execOp a.eval oj).run P w = r at *
  cases r with
  | ok n w' =>
    cases n <;> simp only [Oper.upon] at h ⊢
    case value u => rw [← Act.put_comm a v u h2]; exact h
    case skip => rw [← Act.put_comm a v undef h2]; exact h
    case defer d => rw [← Act.put_comm _ v undef h2, ← Act.put_defers]; exact h
    case enter f args =>
      refine Calls.mono h fun e w'' he => ?_
      cases e with
      | returned u => show K ((a.put oj.dst u).put x v) w''; rw [← Act.put_comm a v u h2]; exact he
      | panicked c => exact he
      | outgrown => exact he
    case row row args => exact Rows.mono h fun u w'' he => by rw [← Act.put_comm a v u h2]; exact he
  | halt x w' => cases x <;> simp only [Oper.upon] at h ⊢; exact h

/-- Two operations that touch nothing of each other. -/
structure Apart (ops : Array Oper) (x y : Oper) : Prop where
  one : ∀ d, x.dst = some d → d ∉ y.looksAt ops
  two : ∀ d, x.dst = some d → y.dst ≠ some d
  three : ∀ d, y.dst = some d → d ∉ x.looksAt ops
  selx : ∀ cs b, x.op ≠ .select cs b
  sely : ∀ cs b, y.op ≠ .select cs b

theorem after_exec {x y : Oper} (hap : Apart ops x y) {a a' : Act} (h : After x a a') : execOp a'.eval y = execOp a.eval y := by
  obtain ⟨u, ds, rfl⟩ := h
  exact execOp_put (ops := ops) y hap.sely { a with defers := ds } x.dst u hap.one
theorem after_wanted {x y : Oper} (hap : Apart ops x y) {a a' : Act} (h : After x a a') : Region.wanted y (yielded ops a'.tmps) = Region.wanted y (yielded ops a.tmps) := by
  obtain ⟨u, ds, rfl⟩ := h
  exact wanted_put y { a with defers := ds } x.dst u hap.one

theorem After.size {x : Oper} {a a' : Act} (h : After x a a') : a'.tmps.size = a.tmps.size := by
  obtain ⟨u, ds, rfl⟩ := h
  cases hx : x.dst <;> simp [Act.put]

theorem Obl.after {x y : Oper} (hap : Apart ops x y) {a a' : Act} (h : After x a a') {v : Value} (ho : Obl P S y v a) : Obl P S y v a' := by
  unfold Obl
  rw [after_exec hap h, h.size]
  exact ho

theorem Obl.before {x y : Oper} (hap : Apart ops x y) {a a' : Act} (h : After x a a') {v : Value} (ho : Obl P S y v a') : Obl P S y v a := by
  unfold Obl at *
  rw [after_exec hap h, h.size] at ho
  exact ho

theorem Obl.eq {o : Oper} {v v' : Value} {a : Act} (h : Obl P S o v a) (h' : Obl P S o v' a) {w : World} (hw : S w) : ∀ d, o.dst = some d → d < a.tmps.size → v' = v := by
  intro d hd hl
  obtain ⟨u, h1, h2⟩ := h w hw
  obtain ⟨u', h3, h4⟩ := h' w hw
  rw [h1] at h3
  injection h3 with h3
  injection h3 with h3
  rw [← h2 d hd hl, ← h4 d hd hl, h3]

theorem After.put (x : Oper) (a : Act) (u : Value) : After x a (a.put x.dst u) := ⟨u, a.defers, rfl⟩

theorem after_comm {x : Oper} {y : Option Tmp} {v : Value} {a a' : Act} (h2 : ∀ d, x.dst = some d → y ≠ some d) (h : After x a a') : After x (a.put y v) (a'.put y v) := by
  obtain ⟨u, ds, rfl⟩ := h
  refine ⟨u, ds, ?_⟩
  rw [Act.put_comm _ u v h2]
  cases y <;> rfl

/-- An operation that floats may be carried out at once. -/
theorem hoistF {Q : Act → World → Prop} {i : Nat} {o : Oper} (hi : ops[i]? = some o) (post : List (Bool × Nat)) : ∀ (pre : List (Bool × Nat)) (a : Act) (w : World),
    (∀ p ∈ pre, ∀ op, ops[p.2]? = some op → Apart ops op o) → S w → wpG P ops S Q (pre ++ (true, i) :: post) a w →
    if Region.wanted o (yielded ops a.tmps) then ∃ v, Obl P S o v a ∧ wpG P ops S Q (pre ++ post) (a.put o.dst v) w else wpG P ops S Q (pre ++ post) (a.put o.dst undef) w
  | [], a, w, _, _, h => by
    simp only [List.nil_append, wpG, hi, if_true] at h
    exact h
  | (f, p) :: pre, a, w, hap, hS, h => by
    simp only [List.cons_append, wpG] at h
    cases hp : ops[p]? with
    | none => rw [hp] at h; exact h.elim
    | some op =>
      rw [hp] at h
      dsimp only at h
      have hap1 : Apart ops op o := hap (f, p) (List.mem_cons_self ..) op hp
      have ih := hoistF (Q := Q) hi post pre
      have hap' : ∀ q ∈ pre, ∀ op, ops[q.2]? = some op → Apart ops op o := fun q hq => hap q (List.mem_cons_of_mem _ hq)
      have hsym : ∀ v u, (a.put op.dst u).put o.dst v = (a.put o.dst v).put op.dst u := fun v u => Act.put_comm a u v hap1.two
      have hwp : ∀ v, Region.wanted op (yielded ops (a.put o.dst v).tmps) = Region.wanted op (yielded ops a.tmps) := fun v => wanted_put op a o.dst v hap1.three
      have hep : ∀ (a : Act) v, execOp (a.put o.dst v).eval op = execOp a.eval op := fun a v => execOp_put (ops := ops) op hap1.selx a o.dst v hap1.three
      by_cases hwt : Region.wanted op (yielded ops a.tmps) = true
      · rw [if_pos hwt] at h
        cases f with
        | true =>
          simp only [if_true] at h
          obtain ⟨vp, hop, hr⟩ := h
          have haf := After.put op a vp
          have h1 := ih _ _ hap' hS hr
          rw [after_wanted hap1 haf] at h1
          have hkeep : ∀ v, Obl P S op vp (a.put o.dst v) := fun v => by
            unfold Obl at *
            rw [hep]
            have : (a.put o.dst v).tmps.size = a.tmps.size := by cases o.dst <;> simp [Act.put]
            rw [this]; exact hop
          split
          · rename_i hw; rw [if_pos hw] at h1
            obtain ⟨v, h2, h3⟩ := h1
            refine ⟨v, h2.before hap1 haf, ?_⟩
            simp only [List.cons_append, wpG, hp]
            rw [hwp, if_pos hwt, if_pos True.intro]
            exact ⟨vp, hkeep v, by rw [← hsym]; exact h3⟩
          · rename_i hw; rw [if_neg hw] at h1
            simp only [List.cons_append, wpG, hp]
            rw [hwp, if_pos hwt, if_pos True.intro]
            exact ⟨vp, hkeep _, by rw [← hsym]; exact h1⟩
        | false =>
          simp only [Bool.false_eq_true, if_false] at h
          have h0 := wp_after h
          have back : ∀ v, op.wp P a w (fun a' w' => (pre ++ post = [] ∨ S w') ∧ wpG P ops S Q (pre ++ post) (a'.put o.dst v) w') noExit → wpG P ops S Q (((false, p) :: pre) ++ post) (a.put o.dst v) w := fun v hh => by
            simp only [List.cons_append, wpG, hp]
            rw [hwp, if_pos hwt]
            simp only [Bool.false_eq_true, if_false]
            unfold Oper.wp at hh ⊢
            rw [hep]
            generalize (execOp a.eval op).run P w = r at *
            cases r with
            | ok n w' =>
              cases n <;> simp only [Oper.upon] at hh ⊢
              case value u => rw [← hsym]; exact hh
              case skip => rw [← hsym]; exact hh
              case defer d =>
                refine ⟨hh.1, ?_⟩
                have h5 := hh.2
                rw [Act.put_comm _ undef v hap1.two] at h5
                rw [Act.put_defers]; exact h5
              case enter fn args =>
                refine Calls.mono hh fun e w'' he => ?_
                cases e with
                | returned u => show _ ∧ wpG P ops S Q (pre ++ post) ((a.put o.dst v).put op.dst u) w''; rw [← hsym]; exact he
                | panicked c => exact he
                | outgrown => obtain ⟨_, _, he⟩ := he; exact he.elim
              case row row args => exact Rows.mono hh fun u w'' he => by rw [← hsym]; exact he
            | halt x w' => cases x <;> simp only [Oper.upon] at hh ⊢; exact hh
          split
          · rename_i hw
            obtain ⟨a1, w1, haf1, hS1', hr1⟩ := wp_some h0
            have hS1 : S w1 := hS1'.resolve_left (by simp)
            have h1 := ih _ _ hap' hS1 hr1
            rw [after_wanted hap1 haf1, if_pos hw] at h1
            obtain ⟨v, h2, _⟩ := h1
            have hv := h2.before hap1 haf1
            refine ⟨v, hv, back v (Oper.wp_mono (fun a' w' hh => ⟨.inr (hh.2.1.resolve_left (by simp)), ?_⟩) h0)⟩
            have h3 := ih _ _ hap' (hh.2.1.resolve_left (by simp)) hh.2.2
            rw [after_wanted hap1 hh.1, if_pos hw] at h3
            obtain ⟨v', h4, h5⟩ := h3
            have h6 := (h4.before hap1 hh.1)
            have h7 := hv.eq h6 hS
            rw [put_eq (o := o) (u := v) (v := v') (fun d hd hl => (h7 d hd (by rw [hh.1.size] at hl; exact hl)).symm)]
            exact h5
          · rename_i hw
            refine back undef (Oper.wp_mono (fun a' w' hh => ⟨.inr (hh.2.1.resolve_left (by simp)), ?_⟩) h0)
            have h3 := ih _ _ hap' (hh.2.1.resolve_left (by simp)) hh.2.2
            rw [after_wanted hap1 hh.1, if_neg hw] at h3
            exact h3
      · rw [if_neg hwt] at h
        have haf := After.put op a undef
        have h1 := ih _ _ hap' hS h
        rw [after_wanted hap1 haf] at h1
        split
        · rename_i hw; rw [if_pos hw] at h1
          obtain ⟨v, h2, h3⟩ := h1
          refine ⟨v, h2.before hap1 haf, ?_⟩
          simp only [List.cons_append, wpG, hp]
          rw [hwp, if_neg hwt, ← hsym]; exact h3
        · rename_i hw; rw [if_neg hw] at h1
          simp only [List.cons_append, wpG, hp]
          rw [hwp, if_neg hwt, ← hsym]; exact h1

/-- An operation of the chain may be carried out ahead of those that float. -/
theorem hoistC {Q : Act → World → Prop} {i : Nat} {o : Oper} (hi : ops[i]? = some o) (post : List (Bool × Nat)) : ∀ (pre : List (Bool × Nat)) (a : Act) (w : World),
    (∀ p ∈ pre, p.1 = true ∧ ∀ op, ops[p.2]? = some op → Apart ops op o) → (post = [] → pre = []) → wpG P ops S Q (pre ++ (false, i) :: post) a w →
    if Region.wanted o (yielded ops a.tmps) then o.wp P a w (fun a' w' => (pre ++ post = [] ∨ S w') ∧ wpG P ops S Q (pre ++ post) a' w') noExit else wpG P ops S Q (pre ++ post) (a.put o.dst undef) w
  | [], a, w, _, _, h => by
    simp only [List.nil_append, wpG, hi, Bool.false_eq_true, if_false] at h
    exact h
  | (f, p) :: pre, a, w, hap, hlst, h => by
    have hpost : post ≠ [] := fun e => by cases hlst e
    simp only [List.cons_append, wpG] at h
    cases hp : ops[p]? with
    | none => rw [hp] at h; exact h.elim
    | some op =>
      rw [hp] at h
      dsimp only at h
      obtain ⟨hf, hap0⟩ := hap (f, p) (List.mem_cons_self ..)
      simp only at hf; subst hf
      have hap1 : Apart ops op o := hap0 op hp
      have ih := hoistC (Q := Q) hi post pre
      have hap' : ∀ q ∈ pre, q.1 = true ∧ ∀ op, ops[q.2]? = some op → Apart ops op o := fun q hq => hap q (List.mem_cons_of_mem _ hq)
      have hwo : ∀ u, Region.wanted o (yielded ops (a.put op.dst u).tmps) = Region.wanted o (yielded ops a.tmps) := fun u => wanted_put o a op.dst u hap1.one
      have hap2 : Apart ops o op := ⟨hap1.three, fun d hd he => hap1.two d he hd, hap1.one, hap1.sely, hap1.selx⟩
      by_cases hwt : Region.wanted op (yielded ops a.tmps) = true
      · rw [if_pos hwt] at h
        simp only [if_true] at h
        obtain ⟨vp, hop, hr⟩ := h
        have h1 := ih _ _ hap' (fun e => absurd e hpost) hr
        rw [hwo] at h1
        split
        · rename_i hw; rw [if_pos hw] at h1
          refine Oper.wp_mono (fun a' w' hh => ⟨.inr (hh.2.1.resolve_left (by simp [hpost])), ?_⟩) (wp_put (ops := ops) hap1.sely hap1.one (fun d hd => hap1.two d hd) h1)
          simp only [List.cons_append, wpG, hp]
          rw [after_wanted hap2 hh.1, if_pos hwt, if_pos True.intro]
          exact ⟨vp, hop.after hap2 hh.1, hh.2.2⟩
        · rename_i hw; rw [if_neg hw] at h1
          simp only [List.cons_append, wpG, hp]
          have haf := After.put o a undef
          rw [after_wanted hap2 haf, if_pos hwt, if_pos True.intro]
          exact ⟨vp, hop.after hap2 haf, by rw [← Act.put_comm _ vp undef hap1.two]; exact h1⟩
      · rw [if_neg hwt] at h
        have h1 := ih _ _ hap' (fun e => absurd e hpost) h
        rw [hwo] at h1
        split
        · rename_i hw; rw [if_pos hw] at h1
          refine Oper.wp_mono (fun a' w' hh => ⟨.inr (hh.2.1.resolve_left (by simp [hpost])), ?_⟩) (wp_put (ops := ops) hap1.sely hap1.one (fun d hd => hap1.two d hd) h1)
          simp only [List.cons_append, wpG, hp]
          rw [after_wanted hap2 hh.1, if_neg hwt]
          exact hh.2.2
        · rename_i hw; rw [if_neg hw] at h1
          simp only [List.cons_append, wpG, hp]
          rw [after_wanted hap2 (After.put o a undef), if_neg hwt, ← Act.put_comm _ undef undef hap1.two]
          exact h1


/-- i is carried out ahead of j, whatever order is drawn. -/
inductive Anc (ops : Array Oper) : Nat → Nat → Prop where
  | edge {j : Nat} {o : Oper} {e : Edge} (hj : ops[j]? = some o) (he : e ∈ o.after) (hb : Region.binds .any e = true) : Anc ops e.on j
  | step {i j : Nat} {o : Oper} {e : Edge} (hj : ops[j]? = some o) (he : e ∈ o.after) (hb : Region.binds .any e = true) (h : Anc ops i e.on) : Anc ops i j

def Deps (ops : Array Oper) (listed : Array Bool) (j : Nat) : Prop := ∀ o, ops[j]? = some o → ∀ e ∈ o.after, Region.binds .any e = true → listed.getD e.on false = true

theorem anc_listed {listed : Array Bool} (hc : ∀ j, listed.getD j false = true → Deps ops listed j) {i j : Nat} (h : Anc ops i j) : Deps ops listed j → listed.getD i false = true := by
  induction h with
  | edge hj he hb => exact fun hd => hd _ hj _ he hb
  | step hj he hb _ ih => exact fun hd => ih (hc _ (hd _ hj _ he hb))

def maskOf (acc : Array Nat) (o : Oper) : Nat := o.after.foldl (fun s e => if Region.binds .any e then s ||| 2 ^ e.on ||| acc.getD e.on 0 else s) 0
def masksFrom (acc : Array Nat) : List Oper → Array Nat
  | [] => acc
  | o :: r => masksFrom (acc.push (maskOf acc o)) r

theorem maskOf_spec {acc : Array Nat} {o : Oper} {j : Nat} (hj : ops[j]? = some o) (ha : ∀ i j, (acc.getD j 0).testBit i = true → Anc ops i j) {i : Nat} (h : (maskOf acc o).testBit i = true) : Anc ops i j := by
  have key : ∀ (l : List Edge) (s : Nat), (∀ e ∈ l, e ∈ o.after) → (s.testBit i = true → Anc ops i j) → (l.foldl (fun s e => if Region.binds .any e then s ||| 2 ^ e.on ||| acc.getD e.on 0 else s) s).testBit i = true → Anc ops i j := by
    intro l
    induction l with
    | nil => intro s _ hs h; exact hs h
    | cons e l ih =>
      intro s hl hs h
      refine ih _ (fun e' he' => hl e' (List.mem_cons_of_mem _ he')) ?_ h
      intro h1
      dsimp only at h1
      by_cases hb : Region.binds .any e = true
      · rw [if_pos hb] at h1
        rw [Nat.testBit_or, Nat.testBit_or, Bool.or_eq_true, Bool.or_eq_true] at h1
        rcases h1 with (h1 | h1) | h1
        · exact hs h1
        · rw [Nat.testBit_two_pow] at h1
          have : e.on = i := by simpa using h1
          subst this
          exact .edge hj (hl e (List.mem_cons_self ..)) hb
        · exact .step hj (hl e (List.mem_cons_self ..)) hb (ha _ _ h1)
      · rw [if_neg hb] at h1; exact hs h1
  unfold maskOf at h
  rw [← Array.foldl_toList] at h
  exact key o.after.toList 0 (fun e he => by simpa using he) (by simp) h

theorem masksFrom_spec : ∀ (l : List Oper) (acc : Array Nat), (∀ j, l[j]? = ops[acc.size + j]?) → (∀ i j, (acc.getD j 0).testBit i = true → Anc ops i j) → ∀ i j, ((masksFrom acc l).getD j 0).testBit i = true → Anc ops i j
  | [], _, _, ha, i, j, h => ha i j h
  | o :: r, acc, hl, ha, i, j, h => by
    refine masksFrom_spec r (acc.push (maskOf acc o)) (fun k => ?_) (fun i j hij => ?_) i j h
    · have := hl (k + 1); simp only [List.getElem?_cons_succ] at this; rw [this]; simp [Nat.add_assoc, Nat.add_comm 1 k]
    · have h0 : ops[acc.size]? = some o := by simpa using (hl 0).symm
      rcases Nat.lt_trichotomy j acc.size with hlt | heq | hgt
      · refine ha i j ?_
        simpa [Array.getD_eq_getD_getElem?, Array.getElem?_push, Nat.ne_of_lt hlt] using hij
      · subst heq
        refine maskOf_spec h0 ha ?_
        simpa [Array.getD_eq_getD_getElem?] using hij
      · have : (acc.push (maskOf acc o))[j]? = none := Array.getElem?_eq_none (by simp; omega)
        simp [Array.getD_eq_getD_getElem?, this] at hij

def pairOk (flo : Oper → Bool) (ops : Array Oper) (m : Array Nat) (i j : Nat) : Bool :=
  (m.getD j 0).testBit i || match ops[i]?, ops[j]? with
    | some x, some y => x.apart ops y && (flo x || flo y)
    | _, _ => true

def chkG (flo : Oper → Bool) (l : List Oper) : Bool :=
  let m := masksFrom #[] l
  Region.noSelect l.toArray && (l.zipIdx.all fun (o, j) => o.after.all fun e => !Region.binds .any e || decide (e.on < j)) &&
    ((List.range l.length).all fun j => (List.range j).all fun i => pairOk flo l.toArray m i j) && (List.range (l.length - 1)).all fun j => (m.getD (l.length - 1) 0).testBit j

/-- The walk over the operations as the region lists them. -/
def wpL (P : Program) (ops : Array Oper) (flo : Oper → Bool) (S : World → Prop) (Q : Act → World → Prop) : List Oper → Act → World → Prop
  | [], a, w => Q a w
  | o :: r, a, w =>
    if Region.wanted o (yielded ops a.tmps) then
      if flo o then ∃ v, Obl P S o v a ∧ wpL P ops flo S Q r (a.put o.dst v) w
      else o.wp P a w (fun a' w' => (r = [] ∨ S w') ∧ wpL P ops flo S Q r a' w') noExit
    else wpL P ops flo S Q r (a.put o.dst undef) w

def flags (flo : Oper → Bool) : Nat → List Oper → List (Bool × Nat)
  | _, [] => []
  | k, o :: r => (flo o, k) :: flags flo (k + 1) r

theorem wpG_of_wpL {flo : Oper → Bool} {Q : Act → World → Prop} : ∀ (l : List Oper) (k : Nat) (a : Act) (w : World), (∀ j, l[j]? = ops[k + j]?) → wpL P ops flo S Q l a w → wpG P ops S Q (flags flo k l) a w
  | [], _, _, _, _, h => h
  | o :: r, k, a, w, hl, h => by
    have h0 : ops[k]? = some o := by simpa using (hl 0).symm
    have ih := fun a w => wpG_of_wpL (flo := flo) (Q := Q) r (k + 1) a w (fun j => by have := hl (j + 1); simpa [Nat.add_assoc, Nat.add_comm 1 j] using this)
    simp only [wpL] at h
    simp only [flags, wpG, h0]
    split
    · rename_i hw; rw [if_pos hw] at h
      split
      · rename_i hf; rw [if_pos hf] at h; obtain ⟨v, h1, h2⟩ := h; exact ⟨v, h1, ih _ _ h2⟩
      · rename_i hf; rw [if_neg hf] at h; exact Oper.wp_mono (fun a' w' hh => ⟨hh.1.imp (fun e => by subst e; rfl) id, ih _ _ hh.2⟩) h
    · rename_i hw; rw [if_neg hw] at h; exact ih _ _ h

/-- What is left to be carried out. -/
structure Left (flo : Oper → Bool) (ops : Array Oper) (listed : Array Bool) (L : List (Bool × Nat)) : Prop where
  size : listed.size = ops.size
  mem : ∀ f i, (f, i) ∈ L → i < ops.size ∧ listed.getD i true = false ∧ ∀ o, ops[i]? = some o → flo o = f
  all : ∀ i, i < ops.size → listed.getD i true = false → ∃ f, (f, i) ∈ L
  sorted : L.Pairwise fun x y => x.2 < y.2
  closed : ∀ j, listed.getD j false = true → Deps ops listed j

theorem wpAny_of_wpG {flo : Oper → Bool} {Q : Act → World → Prop} {Q' : Exit → Act → World → Prop} (hQ : ∀ a w, Q a w → Q' .normal a w)
    (hlow : ∀ j o, ops[j]? = some o → ∀ e ∈ o.after, Region.binds .any e = true → e.on < j)
    (hpair : ∀ i j, i < j → j < ops.size → Anc ops i j ∨ ∀ x y, ops[i]? = some x → ops[j]? = some y → Apart ops x y ∧ (flo x = true ∨ flo y = true)) (hlastA : ∀ j m, j < m → ops.size = m + 1 → Anc ops j m) :
    ∀ (n : Nat) (L : List (Bool × Nat)) (listed : Array Bool) (a : Act) (w : World), L.length = n → Left flo ops listed L → (L = [] ∨ S w) → wpG P ops S Q L a w → wpAny P .any ops Q' n listed a w
  | 0, L, listed, a, w, hn, hL, _, h => by
    have : L = [] := List.eq_nil_of_length_eq_zero hn
    subst this
    refine ⟨?_, hQ _ _ h⟩
    refine List.eq_nil_iff_forall_not_mem.2 fun j hj => ?_
    obtain ⟨hu, o, ho, _⟩ := mem_ready.1 hj
    obtain ⟨f, hf⟩ := hL.all j (Array.getElem?_eq_some_iff.1 ho).1 hu
    cases hf
  | n + 1, L, listed, a, w, hn, hL, hS', h => by
    have hS : S w := hS'.resolve_left (fun e => by subst e; cases hn)
    refine ⟨fun h0 => ?_, fun i hi => ?_⟩
    · exfalso
      match L, hn with
      | (f, i) :: r, _ =>
        obtain ⟨h1, h2, _⟩ := hL.mem f i (List.mem_cons_self ..)
        have hi : i ∈ Region.ready .any ops listed := by
          refine mem_ready.2 ⟨h2, ops[i], Array.getElem?_eq_getElem h1, fun e he hb => ?_⟩
          have hlt := hlow i _ (Array.getElem?_eq_getElem h1) e he hb
          cases hl : listed.getD e.on false with
          | true => rfl
          | false =>
            exfalso
            have hlt' : e.on < ops.size := by omega
            have : listed.getD e.on true = false := by
              have hs : e.on < listed.size := by rw [hL.size]; exact hlt'
              simp [Array.getD_eq_getD_getElem?, hs] at hl ⊢; exact hl
            obtain ⟨g, hg⟩ := hL.all e.on hlt' this
            rcases List.mem_cons.1 hg with hg | hg
            · injection hg with _ hg; omega
            · have := (List.pairwise_cons.1 hL.sorted).1 _ hg; simp only at this; omega
        rw [h0] at hi; cases hi
    · obtain ⟨hu, o, ho, hdep⟩ := mem_ready.1 hi
      have hlt := (Array.getElem?_eq_some_iff.1 ho).1
      obtain ⟨f, hf⟩ := hL.all i hlt hu
      have hfo := (hL.mem f i hf).2.2 o ho
      obtain ⟨pre, post, rfl⟩ := List.append_of_mem hf
      have hdeps : Deps ops listed i := fun o' ho' => by rw [ho] at ho'; injection ho' with ho'; subst ho'; exact hdep
      have hsort := List.pairwise_append.1 hL.sorted
      have hpre : ∀ p ∈ pre, ∀ op, ops[p.2]? = some op → Apart ops op o ∧ (flo op = true ∨ flo o = true) := by
        intro p hp op hop
        have hpi : p.2 < i := hsort.2.2 p hp (f, i) (List.mem_cons_self ..)
        rcases hpair p.2 i hpi hlt with hanc | hap
        · exfalso
          have h1 := anc_listed hL.closed hanc hdeps
          have h2 := (hL.mem p.1 p.2 (by simp [hp])).2.1
          have hs : p.2 < listed.size := by rw [hL.size]; omega
          simp [Array.getD_eq_getD_getElem?, hs] at h1 h2
          rw [h1] at h2; cases h2
        · exact hap op o hop ho
      have hL' : Left flo ops (listed.setIfInBounds i true) (pre ++ post) := by
        refine ⟨by simp [hL.size], fun g k hk => ?_, fun k hk hku => ?_, ?_, fun j hj => ?_⟩
        · have hk' : (g, k) ∈ pre ++ (f, i) :: post := by rcases List.mem_append.1 hk with h | h <;> simp [h]
          obtain ⟨h1, h2, h3⟩ := hL.mem g k hk'
          have hne : i ≠ k := by
            rintro rfl
            rcases List.mem_append.1 hk with h | h
            · have := hsort.2.2 _ h (f, i) (List.mem_cons_self ..); simp only at this; omega
            · have := (List.pairwise_cons.1 hsort.2.1).1 _ h; simp only at this; omega
          exact ⟨h1, by rw [getD_set_ne true hne]; exact h2, h3⟩
        · have hne : i ≠ k := by
            rintro rfl
            have hs : i < listed.size := by rw [hL.size]; exact hk
            simp [Array.getD_eq_getD_getElem?, hs] at hku
          rw [getD_set_ne true hne] at hku
          obtain ⟨g, hg⟩ := hL.all k hk hku
          refine ⟨g, ?_⟩
          rcases List.mem_append.1 hg with h | h
          · simp [h]
          · rcases List.mem_cons.1 h with h | h
            · injection h with _ h; exact absurd h.symm hne
            · simp [h]
        · refine List.pairwise_append.2 ⟨hsort.1, (List.pairwise_cons.1 hsort.2.1).2, fun x hx y hy => hsort.2.2 x hx y (List.mem_cons_of_mem _ hy)⟩
        · intro o' ho' e he hb
          by_cases hji : i = j
          · subst hji; exact getD_set_true (hdeps o' ho' e he hb)
          · rw [getD_set_ne false hji] at hj
            exact getD_set_true (hL.closed j hj o' ho' e he hb)
      have hlen : (pre ++ post).length = n := by simp at hn ⊢; omega
      have ih := fun a w => wpAny_of_wpG (flo := flo) (Q := Q) hQ hlow hpair hlastA n (pre ++ post) (listed.setIfInBounds i true) a w hlen hL'
      unfold wpOp
      simp only [ho]
      cases f with
      | true =>
        have h1 := hoistF ho post pre a w (fun p hp op hop => (hpre p hp op hop).1) hS h
        split
        · rename_i hw; rw [if_pos hw] at h1
          obtain ⟨v, hv, h2⟩ := h1
          obtain ⟨u, hu1, hu2⟩ := hv w hS
          refine .inl ?_
          unfold Oper.wp
          rw [hu1]
          show wpAny _ _ _ _ _ _ (a.put o.dst u) w
          rw [put_eq (o := o) hu2]
          exact ih _ _ (.inr hS) h2
        · rename_i hw; rw [if_neg hw] at h1; exact ih _ _ (.inr hS) h1
      | false =>
        have hlst : post = [] → pre = [] := by
          intro hp0
          subst hp0
          by_cases him : ops.size = i + 1
          · cases hpr : pre with
            | nil => rfl
            | cons q r =>
              exfalso
              have hqi : q.2 < i := hsort.2.2 q (by simp [hpr]) (false, i) (List.mem_cons_self ..)
              have h1 := anc_listed hL.closed (hlastA q.2 i hqi him) hdeps
              have h2 := (hL.mem q.1 q.2 (by simp [hpr])).2.1
              have hs : q.2 < listed.size := by rw [hL.size]; omega
              simp [Array.getD_eq_getD_getElem?, hs] at h1 h2
              rw [h1] at h2; cases h2
          · exfalso
            obtain ⟨m, hm⟩ : ∃ m, ops.size = m + 1 := ⟨ops.size - 1, by omega⟩
            have him' : i < m := by omega
            cases hlm : listed.getD m true with
            | false =>
              obtain ⟨g, hg⟩ := hL.all m (by omega) hlm
              rcases List.mem_append.1 hg with h | h
              · have := hsort.2.2 _ h (false, i) (List.mem_cons_self ..); simp only at this; omega
              · rcases List.mem_cons.1 h with h | h
                · injection h with _ h; omega
                · cases h
            | true =>
              have hs : m < listed.size := by rw [hL.size]; omega
              have hm2 : listed.getD m false = true := by
                simp [Array.getD_eq_getD_getElem?, hs] at hlm ⊢; exact hlm
              have h1 := anc_listed hL.closed (hlastA i m him' hm) (hL.closed m hm2)
              have hsi : i < listed.size := by rw [hL.size]; omega
              simp [Array.getD_eq_getD_getElem?, hsi] at h1 hu
              rw [h1] at hu; cases hu
        have h1 := hoistC ho post pre a w (fun p hp => ⟨?_, fun op hop => (hpre p hp op hop).1⟩) hlst h
        · split
          · rename_i hw; rw [if_pos hw] at h1
            refine .inl ?_
            have h2 := Oper.wp_mono (K' := wpAny P .any ops Q' n (listed.setIfInBounds i true)) (fun a' w' hh => ih a' w' hh.1 hh.2) h1
            unfold Oper.wp at h2 ⊢
            generalize (execOp a.eval o).run P w = r at *
            cases r with
            | ok nx w' =>
              cases nx <;> simp only [Oper.upon] at h2 ⊢ <;> first
                | exact h2
                | (refine Calls.mono h2 fun e w'' he => ?_
                   cases e with
                   | returned u => exact he
                   | panicked c => exact he.elim
                   | outgrown => obtain ⟨_, _, he⟩ := he; exact he.elim)
            | halt x w' => cases x <;> simp only [Oper.upon] at h2 ⊢; exact h2.elim
          · rename_i hw; rw [if_neg hw] at h1; exact ih _ _ (.inr hS) h1
        · have hp2 := hL.mem p.1 p.2 (by simp [hp])
          have h3 := hpre p hp ops[p.2] (Array.getElem?_eq_getElem hp2.1)
          rcases h3.2 with h4 | h4
          · rw [← hp2.2.2 _ (Array.getElem?_eq_getElem hp2.1)]; exact h4
          · rw [hfo] at h4; cases h4

theorem flags_spec (flo : Oper → Bool) : ∀ (l : List Oper) (k : Nat), (flags flo k l).length = l.length ∧ (∀ f i, (f, i) ∈ flags flo k l → k ≤ i ∧ i < k + l.length ∧ ∀ o, l[i - k]? = some o → flo o = f) ∧
    (∀ i, k ≤ i → i < k + l.length → ∃ f, (f, i) ∈ flags flo k l) ∧ (flags flo k l).Pairwise fun x y => x.2 < y.2
  | [], k => ⟨rfl, (fun f i h => by cases h), (fun i h1 h2 => by simp at h2; omega), List.Pairwise.nil⟩
  | o :: r, k => by
    obtain ⟨h1, h2, h3, h4⟩ := flags_spec flo r (k + 1)
    refine ⟨by simp [flags, h1], fun f i h => ?_, fun i hi1 hi2 => ?_, ?_⟩
    · rcases List.mem_cons.1 h with h | h
      · injection h with hf hi; subst hf; subst hi
        exact ⟨Nat.le_refl _, by simp, fun o' ho' => by simp at ho'; rw [ho']⟩
      · obtain ⟨a1, a2, a3⟩ := h2 f i h
        refine ⟨by omega, by simp; omega, fun o' ho' => a3 o' ?_⟩
        rw [show i - k = (i - (k + 1)) + 1 from by omega] at ho'
        simpa using ho'
    · by_cases he : i = k
      · subst he; exact ⟨_, List.mem_cons_self ..⟩
      · obtain ⟨f, hf⟩ := h3 i (by omega) (by simp at hi2; omega)
        exact ⟨f, List.mem_cons_of_mem _ hf⟩
    · refine List.pairwise_cons.2 ⟨fun x hx => ?_, h4⟩
      have := (h2 x.1 x.2 hx).1
      show k < x.2
      omega

/-- A region that draws its order, walked once in the order of the text. -/
theorem wp_region_G {id : Nat} {Q : Exit → Act → World → Prop} {a : Act} {w : World} {l : List Oper} (flo : Oper → Bool) (S : World → Prop) (hm : P.follows .mixedOrders = true) (hB : chkG flo l = true)
    (hS : S { w with drawn := w.drawn + 1 }) (h : wpL P l.toArray flo S (fun a' w' => Q .normal a' w') l a { w with drawn := w.drawn + 1 }) : (Code.region id l.toArray true).wp P Q a w := by
  simp only [chkG, Bool.and_eq_true] at hB
  obtain ⟨⟨⟨hsel, hlow⟩, hp⟩, hla⟩ := hB
  have hsel' := Region.noSelect_spec hsel
  obtain ⟨f1, f2, f3, f4⟩ := flags_spec flo l 0
  have hG := wpG_of_wpL (P := P) (ops := l.toArray) (S := S) l 0 a _ (fun j => by simp) h
  refine wp_region_any hm ?_
  have hsz : l.toArray.size = (flags flo 0 l).length := by simp [f1]
  rw [hsz]
  refine wpAny_of_wpG (S := S) (P := P) (Q := fun a' w' => Q .normal a' w') (flo := flo) (fun _ _ h => h) ?_ ?_ ?_ _ (flags flo 0 l) _ a _ rfl ?_ (.inr hS) hG
  · intro j o ho e he hb
    have hl : l[j]? = some o := by simpa using ho
    have hm := List.all_eq_true.1 hlow (o, j) (by rw [List.mem_zipIdx_iff_getElem?]; exact hl)
    have := Array.all_eq_true_iff_forall_mem.1 hm e he
    simpa [hb] using this
  · intro i j hij hj
    have hj' : j < l.length := by simpa using hj
    have h1 := List.all_eq_true.1 (List.all_eq_true.1 hp j (List.mem_range.2 hj')) i (List.mem_range.2 hij)
    unfold pairOk at h1
    rcases Bool.or_eq_true _ _ ▸ h1 with h1 | h1
    · exact .inl (masksFrom_spec (ops := l.toArray) l #[] (fun j => by simp) (by simp) i j h1)
    · refine .inr fun x y hx hy => ?_
      simp only [hx, hy, Bool.and_eq_true, Bool.or_eq_true] at h1
      obtain ⟨s1, s2, s3⟩ := Oper.apart_spec h1.1
      exact ⟨⟨s1, s2, s3, fun cs b => hsel' i x cs b hx, fun cs b => hsel' j y cs b hy⟩, h1.2⟩
  · intro j m hj hm
    have hm' : l.length = m + 1 := by simpa using hm
    have h1 := List.all_eq_true.1 hla j (List.mem_range.2 (by omega))
    rw [show l.length - 1 = m by omega] at h1
    exact masksFrom_spec (ops := l.toArray) l #[] (fun j => by simp) (by simp) j m h1
  · refine ⟨by simp [f1], fun f i hfi => ?_, fun i hi _ => ?_, f4, fun j hj => ?_⟩
    · obtain ⟨b1, b2, b3⟩ := f2 f i hfi
      refine ⟨by simpa using b2, ?_, fun o ho => b3 o (by simpa using ho)⟩
      have : i < (flags flo 0 l).length := by rw [f1]; omega
      simp [this]
    · exact f3 i (Nat.zero_le _) (by simpa using hi)
    · exfalso
      rw [getD_replicate_false] at hj; cases hj


section
variable {flo : Oper → Bool} {Q : Act → World → Prop} {a : Act} {w : World} {o : Oper} {r : List Oper}
theorem wpL_nil (h : Q a w) : wpL P ops flo S Q [] a w := h
theorem wpL_skip (hw : Region.wanted o (yielded ops a.tmps) = false) (h : wpL P ops flo S Q r (a.put o.dst undef) w) : wpL P ops flo S Q (o :: r) a w := by
  simp only [wpL, hw, Bool.false_eq_true, if_false]; exact h
theorem wpL_move (x : Operand) (hw : Region.wanted o (yielded ops a.tmps) = true) (hf : flo o = true) (ho : o.op = .move x ∨ o.op = .assign x) (h : wpL P ops flo S Q r (a.put o.dst (a.eval x)) w) : wpL P ops flo S Q (o :: r) a w := by
  simp only [wpL, hw, hf, if_true]
  refine ⟨_, fun w hw => ⟨_, ?_, fun _ _ _ => rfl⟩, h⟩
  rcases ho with ho | ho <;> simp [execOp, ho]
theorem wpL_float {d : Nat} (v : Value) (hw : Region.wanted o (yielded ops a.tmps) = true) (hf : flo o = true) (hn : nocall o = true) (hd : o.dst = some d)
    (h : ∀ w, S w → ∀ K : Act → World → Prop, (∀ a' w', a'.tmps.getD d undef = v → w' = w → K a' w') → o.wp P a w K noExit)
    (hr : wpL P ops flo S Q r (a.put o.dst v) w) : wpL P ops flo S Q (o :: r) a w := by
  simp only [wpL, hw, hf, if_true]
  refine ⟨v, fun w hw => ?_, hr⟩
  have h1 := h w hw (fun a' w' => a'.tmps.getD d undef = v ∧ w' = w) (fun _ _ h1 h2 => ⟨h1, h2⟩)
  unfold Oper.wp at h1
  cases hr : (execOp a.eval o).run P w with
  | ok n w' =>
    obtain ⟨u, rfl⟩ := value_of_nocall hn hr
    rw [hr] at h1
    obtain ⟨h2, rfl⟩ := h1
    refine ⟨u, rfl, fun d' hd' hl => ?_⟩
    rw [hd] at hd'
    injection hd' with hd'
    subst hd'
    rw [hd] at h2
    simpa [Act.put, hl] using h2
  | halt x w' =>
    rw [hr] at h1
    cases x <;> simp only [Oper.upon] at h1
    exact h1.elim
/-- What is asked of an operation that floats. -/
def Shows (P : Program) (S : World → Prop) (o : Oper) (a : Act) (d : Nat) (v : Value) : Prop :=
  ∀ w, S w → ∀ K : Act → World → Prop, (∀ a' w', a'.tmps.getD d undef = v → w' = w → K a' w') → o.wp P a w K noExit
theorem wpL_flo {d : Nat} (hw : Region.wanted o (yielded ops a.tmps) = true) (hf : flo o = true) (hn : nocall o = true) (hd : o.dst = some d)
    (h : ∃ v, Shows P S o a d v ∧ wpL P ops flo S Q r (a.put (some d) v) w) : wpL P ops flo S Q (o :: r) a w :=
  let ⟨v, h1, h2⟩ := h
  wpL_float v hw hf hn hd h1 (hd ▸ h2)
theorem wpL_chain (hw : Region.wanted o (yielded ops a.tmps) = true) (hf : flo o = false)
    (h : ∀ K : Act → World → Prop, (∀ a' w', ((r = [] ∨ S w') ∧ wpL P ops flo S Q r a' w') → K a' w') → o.wp P a w K noExit) : wpL P ops flo S Q (o :: r) a w := by
  simp only [wpL, hw, hf, if_true, Bool.false_eq_true, if_false]
  exact h _ fun _ _ h => h
end

theorem eval_tmp (l : List Value) (ds : List Deferred) (t : Nat) : (Act.mk l.toArray ds).eval (.tmp t) = l.getD t undef := by simp [Act.eval]
theorem eval_const (a : Act) (v : Value) : a.eval (.const v) = v := rfl
theorem put_some (l : List Value) (ds : List Deferred) (d : Nat) (v : Value) : (Act.mk l.toArray ds).put (some d) v = ⟨(l.set d v).toArray, ds⟩ := by simp [Act.put]
theorem arr_getD (l : List Value) (d : Nat) : l.toArray.getD d undef = l.getD d undef := by simp
theorem put_none (a : Act) (v : Value) : a.put none v = a := rfl
/-- One step, what follows behind a letter. -/
def One (P : Program) (ops : Array Oper) (flo : Oper → Bool) (S : World → Prop) (R : Act → World → Prop) (r : List Oper) (o : Oper) (a : Act) (w : World) : Prop :=
  if Region.wanted o (yielded ops a.tmps) then
    if flo o then ∃ v, Obl P S o v a ∧ R (a.put o.dst v) w
    else o.wp P a w (fun a' w' => (r = [] ∨ S w') ∧ R a' w') noExit
  else R (a.put o.dst undef) w
section
variable {flo : Oper → Bool} {Q R : Act → World → Prop} {a a' : Act} {w : World} {o : Oper} {r : List Oper}
theorem step (h : ∀ R : Act → World → Prop, (∀ a w, wpL P ops flo S Q r a w → R a w) → One P ops flo S R r o a w) : wpL P ops flo S Q (o :: r) a w := h _ fun _ _ h => h
theorem at_ (e : a = a') (h : R a' w) : R a w := e ▸ h
theorem one_skip (hw : Region.wanted o (yielded ops a.tmps) = false) (e : a.put o.dst undef = a') (h : R a' w) : One P ops flo S R r o a w := by
  simp only [One, hw, Bool.false_eq_true, if_false]; exact e ▸ h
theorem one_move {x : Operand} {v : Value} (hw : Region.wanted o (yielded ops a.tmps) = true) (hf : flo o = true) (ho : o.op = .move x ∨ o.op = .assign x) (hv : a.eval x = v) (e : a.put o.dst v = a') (h : R a' w) : One P ops flo S R r o a w := by
  subst hv; subst e
  simp only [One, hw, hf, if_true]
  refine ⟨_, fun w hw => ⟨_, ?_, fun _ _ _ => rfl⟩, h⟩
  rcases ho with ho | ho <;> simp [execOp, ho]
theorem one_float {d : Nat} (hw : Region.wanted o (yielded ops a.tmps) = true) (hf : flo o = true) (hn : nocall o = true) (hd : o.dst = some d)
    (h : ∃ v a', Shows P S o a d v ∧ a.put (some d) v = a' ∧ R a' w) : One P ops flo S R r o a w := by
  obtain ⟨v, a', h1, rfl, h2⟩ := h
  simp only [One, hw, hf, if_true]
  have h3 := wpL_float (P := P) (ops := ops) (S := S) (flo := flo) (r := []) (Q := R) (w := w) v hw hf hn hd h1 (hd ▸ h2)
  simp only [wpL, hw, hf, if_true] at h3
  exact h3
theorem one_chain (hw : Region.wanted o (yielded ops a.tmps) = true) (hf : flo o = false)
    (h : ∀ K : Act → World → Prop, (∀ a' w', ((r = [] ∨ S w') ∧ R a' w') → K a' w') → o.wp P a w K noExit) : One P ops flo S R r o a w := by
  simp only [One, hw, hf, if_true, Bool.false_eq_true, if_false]
  exact h _ fun _ _ h => h
end

/-- What floats where loads do not. -/
def fW (o : Oper) : Bool := match o.op with
  | .move _ | .assign _ | .pick .. | .build .. | .binOp .. | .unOp .. | .convert .. | .slice .. | .fieldAddr .. | .field .. | .indexAddr .. | .index .. | .extract .. => true
  | .call { callee := .builtin .len, .. } | .call { callee := .builtin .cap, .. } | .call { callee := .builtin .min, .. } | .call { callee := .builtin .max, .. } => true
  | _ => false
/-- What floats where loads do. -/
def fL (o : Oper) : Bool := match o.op with
  | .load .. => true
  | _ => fW o

theorem dec_t {p : Prop} [Decidable p] (h : p) : Value.bool (decide p) = Value.bool true := by rw [decide_eq_true h]
theorem dec_f {p : Prop} [Decidable p] (h : ¬ p) : Value.bool (decide p) = Value.bool false := by rw [decide_eq_false h]
theorem beq_t {a b : Int} (h : a = b) : Value.bool (a == b) = Value.bool true := by rw [beq_iff_eq.2 h]
theorem beq_f {a b : Int} (h : a ≠ b) : Value.bool (a == b) = Value.bool false := by rw [beq_eq_false_iff_ne.2 h]
theorem bne_t {a b : Int} (h : a ≠ b) : Value.bool (a != b) = Value.bool true := by rw [bne_iff_ne.2 h]
theorem bne_f {a b : Int} (h : a = b) : Value.bool (a != b) = Value.bool false := by subst h; simp
/-- A fact that the walk does not look at. -/
def Veil (p : Prop) : Prop := p
theorem Veil.out {p : Prop} (h : Veil p) : p := h

/-- The region that draws, its list of operations behind a letter; every other operation comes ahead of the last one. -/
theorem region {id : Nat} {Q : Exit → Act → World → Prop} {a : Act} {w : World} {l : List Oper} (flo : Oper → Bool) (S : World → Prop) (hm : P.follows .mixedOrders = true) (hB : chkG flo l = true)
    (hS : S w.drew) (h : ∀ OPS : Array Oper, Veil (OPS = l.toArray) → ∀ R : Act → World → Prop, (∀ a' w', Q .normal a' w' → R a' w') → wpL P OPS flo S R l a w.drew) : (Code.region id l.toArray true).wp P Q a w :=
  wp_region_G flo S hm hB hS (h _ rfl _ fun _ _ h => h)

end
/-- What floats where checks for nil and loads do. -/
def fN (o : Oper) : Bool := match o.op with
  | .nilCheck .. => true
  | _ => fL o
theorem one_nil {P : Program} {ops : Array Oper} {S : World → Prop} {flo : Oper → Bool} {R : Act → World → Prop} {r : List Oper} {a a' : Act} {w : World} {o : Oper} {x : Operand} {p : Addr} (hw : Region.wanted o (yielded ops a.tmps) = true) (hf : flo o = true) (ho : o.op = .nilCheck x) (hv : a.eval x = .pointer (some p)) (e : a.put o.dst (.pointer (some p)) = a') (h : R a' w) : One P ops flo S R r o a w := by
  subst e
  simp only [One, hw, hf, if_true]
  refine ⟨_, fun w hw => ⟨_, ?_, fun _ _ _ => rfl⟩, h⟩
  simp [execOp, ho, hv]
end Go.RY
