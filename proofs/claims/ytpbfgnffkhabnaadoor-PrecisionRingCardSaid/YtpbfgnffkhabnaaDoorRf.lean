import Derived.Test.YtpbfgnffkhabnaaDoorRn
set_option linter.unusedSimpArgs false
set_option linter.unusedVariables false
namespace Go.RX
open Go.RowKit

/-! A region that draws its order, some of whose chain operations stand in no order to one another: walked once for each of the orders of the chain (value operations alone). -/

/-- Operations that give a value and call nothing of the program's. -/
def valueOp (o : Oper) : Bool := nocall o || match o.op with
  | .buildSlice .. | .box .. => true
  | .call { callee := .builtin .append, .. } => true
  | _ => false
theorem value_of_valueOp {P : Program} {o : Oper} (hn : valueOp o = true) {ρ : Operand → Value} {w w' : World} {n : Next} (h : (execOp ρ o).run P w = .ok n w') : ∃ u, n = .value u := by
  unfold valueOp at hn
  rw [Bool.or_eq_true] at hn
  rcases hn with hn | hn
  · exact value_of_nocall hn h
  obtain ⟨dst, op, type, pos, after, guard⟩ := o
  have key : ∀ {α : Type} (s : Sem α) (f : α → Value), (s >>= fun v => pure (Next.value (f v))).run P w = .ok n w' → ∃ u, n = .value u := by
    intro α s f hs
    rw [Sem.run_bind] at hs
    cases hr : s.run P w with
    | ok v w1 => rw [hr] at hs; simp only [Result.andThen_ok, Sem.run_pure] at hs; injection hs with h1; exact ⟨_, h1.symm⟩
    | halt x w1 => rw [hr] at hs; simp [Result.andThen] at hs
  cases op <;> simp only [Bool.false_eq_true] at hn <;> simp only [execOp] at h
  case call c =>
    obtain ⟨callee, args, argTypes⟩ := c
    cases callee with
    | builtin b => cases b <;> simp only [Bool.false_eq_true] at hn <;> exact key _ id h
    | value f => simp at hn
    | invoke r m => simp at hn
  all_goals exact key _ id h

theorem Apart.symm {ops : Array Oper} {x y : Oper} (h : Apart ops x y) : Apart ops y x := ⟨h.three, fun d hd hx => h.two d hx hd, h.one, h.sely, h.selx⟩

/-- What is left to be carried out, in an order that the edges allow. -/
structure LeftT (flo : Oper → Bool) (ops : Array Oper) (listed : Array Bool) (L : List (Bool × Nat)) : Prop where
  mem : ∀ f i, (f, i) ∈ L → i < ops.size ∧ listed.getD i true = false ∧ ∀ o, ops[i]? = some o → flo o = f
  all : ∀ i, i < ops.size → listed.getD i true = false → ∃ f, (f, i) ∈ L
  nodup : L.Pairwise fun x y => x.2 ≠ y.2
  topo : L.Pairwise fun x y => ¬ Anc ops y.2 x.2

def chs (L : List (Bool × Nat)) : List Nat := (L.filter (fun x => !x.1)).map (·.2)
def rid (i : Nat) (L : List (Bool × Nat)) : List (Bool × Nat) := L.filter (fun x => x.2 != i)
theorem rid_app {i : Nat} {f : Bool} {pre post : List (Bool × Nat)} (h : (pre ++ (f, i) :: post).Pairwise fun x y => x.2 ≠ y.2) : rid i (pre ++ (f, i) :: post) = pre ++ post := by
  have h1 := List.pairwise_append.1 h
  have h2 : ∀ x ∈ pre, x.2 ≠ i := fun x hx => h1.2.2 x hx (f, i) (List.mem_cons_self ..)
  have h3 : ∀ x ∈ post, x.2 ≠ i := fun x hx => Ne.symm ((List.pairwise_cons.1 h1.2.1).1 x hx)
  unfold rid
  rw [List.filter_append, List.filter_cons_of_neg (by simp), List.filter_eq_self.2 (fun x hx => by simpa using h2 x hx), List.filter_eq_self.2 (fun x hx => by simpa using h3 x hx)]

/-- The orders of the chain: at each step each operation that may come up stands at the head of one. -/
def cov (bit : Nat → Nat → Bool) : Nat → List Nat → List (List Nat) → Bool
  | 0, rem, _ => rem.isEmpty
  | m + 1, rem, πs => rem.all fun j => rem.any (fun i => i != j && bit i j) || (!((πs.filterMap fun π => if π.head? = some j then some π.tail else none).isEmpty) && cov bit m (rem.filter (· != j)) (πs.filterMap fun π => if π.head? = some j then some π.tail else none))

section
variable {P : Program} {ops : Array Oper} {S : World → Prop}
theorem LeftT.rid {flo : Oper → Bool} {listed : Array Bool} {pre post : List (Bool × Nat)} {f : Bool} {i : Nat} (hsz : listed.size = ops.size) (hL : LeftT flo ops listed (pre ++ (f, i) :: post)) : LeftT flo ops (listed.setIfInBounds i true) (pre ++ post) := by
  have hs := List.pairwise_append.1 hL.nodup
  have ht := List.pairwise_append.1 hL.topo
  refine ⟨fun g k hk => ?_, fun k hk hku => ?_, ?_, ?_⟩
  · have hk' : (g, k) ∈ pre ++ (f, i) :: post := by rcases List.mem_append.1 hk with h | h <;> simp [h]
    obtain ⟨h1, h2, h3⟩ := hL.mem g k hk'
    have hne : i ≠ k := by
      rintro rfl
      rcases List.mem_append.1 hk with h | h
      · exact hs.2.2 _ h (f, i) (List.mem_cons_self ..) rfl
      · exact (List.pairwise_cons.1 hs.2.1).1 _ h rfl
    exact ⟨h1, by rw [getD_set_ne true hne]; exact h2, h3⟩
  · have hne : i ≠ k := by
      rintro rfl
      have hs : i < listed.size := by rw [hsz]; exact hk
      simp [Array.getD_eq_getD_getElem?, hs] at hku
    rw [getD_set_ne true hne] at hku
    obtain ⟨g, hg⟩ := hL.all k hk hku
    refine ⟨g, ?_⟩
    rcases List.mem_append.1 hg with h | h
    · simp [h]
    · rcases List.mem_cons.1 h with h | h
      · injection h with _ h; exact absurd h.symm hne
      · simp [h]
  · exact List.pairwise_append.2 ⟨hs.1, (List.pairwise_cons.1 hs.2.1).2, fun x hx y hy => hs.2.2 x hx y (List.mem_cons_of_mem _ hy)⟩
  · exact List.pairwise_append.2 ⟨ht.1, (List.pairwise_cons.1 ht.2.1).2, fun x hx y hy => ht.2.2 x hx y (List.mem_cons_of_mem _ hy)⟩

theorem chs_float {pre post : List (Bool × Nat)} {i : Nat} : chs (pre ++ (true, i) :: post) = chs (pre ++ post) := by
  simp [chs, List.filter_append]
theorem chs_head {pre post : List (Bool × Nat)} {i : Nat} {π : List Nat} (hpre : ∀ p ∈ pre, p.1 = true) : chs (pre ++ (false, i) :: post) = i :: chs (pre ++ post) := by
  have h : pre.filter (fun x => !x.1) = [] := List.filter_eq_nil_iff.2 fun x hx => by simp [hpre x hx]
  simp [chs, List.filter_append, h]
/-- A list whose chain begins with j: what stands ahead of j floats. -/
theorem split_head : ∀ (L : List (Bool × Nat)) (j : Nat), (chs L).head? = some j → ∃ pre post, L = pre ++ (false, j) :: post ∧ ∀ p ∈ pre, p.1 = true
  | [], j, h => by simp [chs] at h
  | (true, k) :: L, j, h => by
    obtain ⟨pre, post, rfl, h2⟩ := split_head L j (by simpa [chs] using h)
    exact ⟨(true, k) :: pre, post, rfl, fun p hp => by rcases List.mem_cons.1 hp with rfl | hp; rfl; exact h2 p hp⟩
  | (false, k) :: L, j, h => by
    have : k = j := by simpa [chs] using h
    subst this
    exact ⟨[], L, rfl, fun p hp => by cases hp⟩

theorem wpAny_of_fam {flo : Oper → Bool} {Q : Act → World → Prop} {Q' : Exit → Act → World → Prop} (hQ : ∀ a w, Q a w → Q' .normal a w) {bit : Nat → Nat → Bool} (hbit : ∀ i j, bit i j = true → Anc ops i j)
    (hval : ∀ (j : Nat) (o : Oper), ops[j]? = some o → flo o = false → valueOp o = true)
    (hlow : ∀ j o, ops[j]? = some o → ∀ e ∈ o.after, Region.binds .any e = true → e.on < j)
    (hpair : ∀ i j, i < ops.size → j < ops.size → i ≠ j → Anc ops i j ∨ Anc ops j i ∨ ∀ x y, ops[i]? = some x → ops[j]? = some y → (flo x = true ∨ flo y = true) → Apart ops x y) :
    ∀ (n m : Nat) (F : List (List (Bool × Nat))) (rem : List Nat) (listed : Array Bool) (a : Act) (w : World), F ≠ [] → listed.size = ops.size → (∀ j, listed.getD j false = true → Deps ops listed j) →
      (∀ L ∈ F, L.length = n ∧ LeftT flo ops listed L ∧ wpG P ops S Q L a w) → (∀ j, j < ops.size → listed.getD j true = false → (∀ o, ops[j]? = some o → flo o = false) → j ∈ rem) → (∀ j ∈ rem, listed.getD j true = false ∧ ∀ o, ops[j]? = some o → flo o = false) → cov bit m rem (F.map chs) = true → S w → wpAny P .any ops Q' n listed a w
  | 0, m, F, rem, listed, a, w, hF, hsz, hcl, hall, hrem, hrem', hcov, hS => by
    obtain ⟨L, hL⟩ := List.exists_mem_of_ne_nil F hF
    obtain ⟨h1, h2, h3⟩ := hall L hL
    obtain rfl : L = [] := List.eq_nil_of_length_eq_zero h1
    refine ⟨?_, hQ _ _ h3⟩
    refine List.eq_nil_iff_forall_not_mem.2 fun j hj => ?_
    obtain ⟨hu, o, ho, _⟩ := mem_ready.1 hj
    obtain ⟨f, hf⟩ := h2.all j (Array.getElem?_eq_some_iff.1 ho).1 hu
    cases hf
  | n + 1, m, F, rem, listed, a, w, hF, hsz, hcl, hall, hrem, hrem', hcov, hS => by
    refine ⟨fun h0 => ?_, fun i hi => ?_⟩
    · exfalso
      obtain ⟨L, hLF⟩ := List.exists_mem_of_ne_nil F hF
      obtain ⟨hn, hL, _⟩ := hall L hLF
      match L, hn, hL with
      | (f, i) :: r, _, hL =>
        obtain ⟨h1, h2, _⟩ := hL.mem f i (List.mem_cons_self ..)
        have hi : i ∈ Region.ready .any ops listed := by
          refine mem_ready.2 ⟨h2, ops[i], Array.getElem?_eq_getElem h1, fun e he hb => ?_⟩
          have hlt := hlow i _ (Array.getElem?_eq_getElem h1) e he hb
          cases hl : listed.getD e.on false with
          | true => rfl
          | false =>
            exfalso
            have hlt' : e.on < ops.size := by omega
            have : listed.getD e.on true = false := by
              have hs : e.on < listed.size := by rw [hsz]; exact hlt'
              simp [Array.getD_eq_getD_getElem?, hs] at hl ⊢; exact hl
            obtain ⟨g, hg⟩ := hL.all e.on hlt' this
            rcases List.mem_cons.1 hg with hg | hg
            · injection hg with _ hg; omega
            · exact (List.pairwise_cons.1 hL.topo).1 _ hg (.edge (Array.getElem?_eq_getElem h1) he hb)
        rw [h0] at hi; cases hi
    · obtain ⟨hu, o, ho, hdep⟩ := mem_ready.1 hi
      have hlt := (Array.getElem?_eq_some_iff.1 ho).1
      have hdeps : Deps ops listed i := fun o' ho' => by rw [ho] at ho'; injection ho' with ho'; subst ho'; exact hdep
      have hcl' : ∀ j, (listed.setIfInBounds i true).getD j false = true → Deps ops (listed.setIfInBounds i true) j := by
        intro j hj o' ho' e he hb
        by_cases hji : i = j
        · subst hji; exact getD_set_true (hdeps o' ho' e he hb)
        · rw [getD_set_ne false hji] at hj
          exact getD_set_true (hcl j hj o' ho' e he hb)
      have notAnc : ∀ k, k < ops.size → listed.getD k true = false → ¬ Anc ops k i := fun k hk hk2 hanc => by
        have h1 := anc_listed hcl hanc hdeps
        have hs : k < listed.size := by rw [hsz]; exact hk
        simp [Array.getD_eq_getD_getElem?, hs] at h1 hk2
        rw [h1] at hk2; cases hk2
      have hsz' : (listed.setIfInBounds i true).size = ops.size := by simp [hsz]
      have hpre : ∀ (pre post : List (Bool × Nat)) (f : Bool), LeftT flo ops listed (pre ++ (f, i) :: post) → ∀ p ∈ pre, (p.1 = true ∨ f = true) → ∀ op, ops[p.2]? = some op → Apart ops op o := by
        intro pre post f hL p hp hfl op hop
        have hm := hL.mem p.1 p.2 (by simp [hp])
        have hne := (List.pairwise_append.1 hL.nodup).2.2 p hp (f, i) (List.mem_cons_self ..)
        have htp := (List.pairwise_append.1 hL.topo).2.2 p hp (f, i) (List.mem_cons_self ..)
        have hfi := (hL.mem f i (by simp)).2.2 o ho
        rcases hpair p.2 i hm.1 hlt hne with h | h | h
        · exact (notAnc _ hm.1 hm.2.1 h).elim
        · exact (htp h).elim
        · exact h op o hop ho (hfl.imp (fun h => by rw [hm.2.2 op hop]; exact h) (fun h => by rw [hfi]; exact h))
      unfold wpOp
      simp only [ho]
      cases hfo : flo o with
      | true =>
        -- in each list the operation floats
        have hparts : ∀ L ∈ F, ∃ pre post, L = pre ++ (true, i) :: post := fun L hL => by
          obtain ⟨_, h2, _⟩ := hall L hL
          obtain ⟨f, hf⟩ := h2.all i hlt hu
          have := (h2.mem f i hf).2.2 o ho
          rw [hfo] at this; subst this
          exact List.append_of_mem hf
        have hnew : ∀ a' w', S w' → (∀ L ∈ F, wpG P ops S Q (rid i L) a' w') → wpAny P .any ops Q' n (listed.setIfInBounds i true) a' w' := by
          intro a' w' hS' h
          refine wpAny_of_fam hQ hbit hval hlow hpair n m (F.map (rid i)) rem _ a' w' (by simpa using hF) hsz' hcl' ?_ ?_ ?_ ?_ hS'
          · intro L' hL'
            obtain ⟨L, hL, rfl⟩ := List.mem_map.1 hL'
            obtain ⟨pre, post, rfl⟩ := hparts L hL
            obtain ⟨h1, h2, _⟩ := hall _ hL
            have h4 := h _ hL
            rw [rid_app h2.nodup] at h4 ⊢
            exact ⟨by simp at h1 ⊢; omega, h2.rid hsz, h4⟩
          · intro j hj hju hjf
            have hne : i ≠ j := by
              rintro rfl
              have hs : i < listed.size := by rw [hsz]; exact hlt
              simp [Array.getD_eq_getD_getElem?, hs] at hju
            rw [getD_set_ne true hne] at hju
            exact hrem j hj hju hjf
          · intro j hj
            have hne : i ≠ j := by
              rintro rfl
              have := (hrem' i hj).2 o ho
              rw [hfo] at this; cases this
            rw [getD_set_ne true hne]
            exact hrem' j hj
          · have : (F.map (rid i)).map chs = F.map chs := by
              rw [List.map_map]
              refine List.map_congr_left fun L hL => ?_
              obtain ⟨pre, post, rfl⟩ := hparts L hL
              obtain ⟨h1, h2, _⟩ := hall _ hL
              show chs (rid i _) = _
              rw [rid_app h2.nodup, chs_float]
            rw [this]; exact hcov
        split
        · rename_i hw
          refine .inl ?_
          have hv : ∃ u, (execOp a.eval o).run P w = .ok (.value u) w ∧ ∀ L ∈ F, wpG P ops S Q (rid i L) (a.put o.dst u) w := by
            obtain ⟨L0, hL0⟩ := List.exists_mem_of_ne_nil F hF
            have key : ∀ L ∈ F, ∃ v, Obl P S o v a ∧ wpG P ops S Q (rid i L) (a.put o.dst v) w := by
              intro L hL
              obtain ⟨pre, post, rfl⟩ := hparts L hL
              obtain ⟨h1, h2, h3⟩ := hall _ hL
              have h4 := hoistF ho post pre a w (fun p hp op hop => hpre pre post true h2 p hp (.inr rfl) op hop) hS h3
              rw [if_pos hw] at h4
              rw [rid_app h2.nodup]
              exact h4
            obtain ⟨v0, hv0, _⟩ := key L0 hL0
            obtain ⟨u, hu1, _⟩ := hv0 w hS
            refine ⟨u, hu1, fun L hL => ?_⟩
            obtain ⟨v, hv, h⟩ := key L hL
            obtain ⟨u', hu1', hu2'⟩ := hv w hS
            rw [hu1] at hu1'
            injection hu1' with e1
            injection e1 with e1
            subst e1
            rw [put_eq (o := o) hu2']
            exact h
          obtain ⟨u, hu1, h⟩ := hv
          unfold Oper.wp
          rw [hu1]
          exact hnew _ _ hS h
        · rename_i hw
          refine hnew _ _ hS fun L hL => ?_
          obtain ⟨pre, post, rfl⟩ := hparts L hL
          obtain ⟨h1, h2, h3⟩ := hall _ hL
          have h4 := hoistF ho post pre a w (fun p hp op hop => hpre pre post true h2 p hp (.inr rfl) op hop) hS h3
          rw [if_neg hw] at h4
          rw [rid_app h2.nodup]
          exact h4
      | false =>
        have hir : i ∈ rem := hrem i hlt hu (fun o' ho' => by rw [ho] at ho'; injection ho' with ho'; subst ho'; exact hfo)
        match m, hcov with
        | 0, hcov => simp [cov] at hcov; subst hcov; cases hir
        | m + 1, hcov =>
        simp only [cov, List.all_eq_true] at hcov
        have hci := hcov i hir
        have hnone : rem.any (fun k => k != i && bit k i) = false := by
          rw [Bool.eq_false_iff]
          intro h
          obtain ⟨k, hk, hk2⟩ := List.any_eq_true.1 h
          simp only [Bool.and_eq_true] at hk2
          have hku := (hrem' k hk).1
          have hks : k < ops.size := by
            by_cases hks : k < ops.size
            · exact hks
            · exfalso
              have : listed[k]? = none := Array.getElem?_eq_none (by omega)
              simp [Array.getD_eq_getD_getElem?, this] at hku
          exact notAnc k hks hku (hbit k i hk2.2)
        rw [hnone, Bool.false_or, Bool.and_eq_true] at hci
        obtain ⟨hne0, hcov2⟩ := hci
        have hsplit : ∀ L ∈ F, (chs L).head? = some i → ∃ pre post, L = pre ++ (false, i) :: post ∧ (∀ p ∈ pre, p.1 = true) := fun L _ h => split_head L i h
        have hts : ((F.map chs).filterMap fun π => if π.head? = some i then some π.tail else none) = ((F.filter fun L => decide ((chs L).head? = some i)).map (rid i)).map chs := by
          rw [List.map_map]
          have gen : ∀ G : List (List (Bool × Nat)), (∀ L ∈ G, L ∈ F) → ((G.map chs).filterMap fun π => if π.head? = some i then some π.tail else none) = (G.filter fun L => decide ((chs L).head? = some i)).map (chs ∘ rid i) := by
            intro G
            induction G with
            | nil => intro _; rfl
            | cons L G ih =>
              intro hG
              have ih := ih fun L hL => hG L (List.mem_cons_of_mem _ hL)
              rw [List.map_cons, List.filterMap_cons, List.filter_cons]
              by_cases hh : (chs L).head? = some i
              · obtain ⟨pre, post, hLe, hp⟩ := hsplit L (hG L (List.mem_cons_self ..)) hh
                have h2 := (hall L (hG L (List.mem_cons_self ..))).2.1
                rw [if_pos hh, if_pos (by simpa using hh), List.map_cons, ih]
                have e : chs (rid i L) = (chs L).tail := by
                  subst hLe
                  rw [rid_app h2.nodup, chs_head (π := []) hp]; rfl
                show (chs L).tail :: _ = chs (rid i L) :: _
                rw [e]
              · rw [if_neg hh, if_neg (by simpa using hh), ih]
          exact gen F fun _ h => h
        rw [hts] at hne0 hcov2
        have hF' : (F.filter fun L => decide ((chs L).head? = some i)) ≠ [] := by
          intro h; rw [h] at hne0; simp at hne0
        have hnew : ∀ a' w', S w' → (∀ L ∈ F, (chs L).head? = some i → wpG P ops S Q (rid i L) a' w') → wpAny P .any ops Q' n (listed.setIfInBounds i true) a' w' := by
          intro a' w' hS' h
          refine wpAny_of_fam hQ hbit hval hlow hpair n m ((F.filter fun L => decide ((chs L).head? = some i)).map (rid i)) (rem.filter (· != i)) _ a' w' (by simpa using hF') hsz' hcl' ?_ ?_ ?_ hcov2 hS'
          · intro L' hL'
            obtain ⟨L, hL, rfl⟩ := List.mem_map.1 hL'
            obtain ⟨hLF, hh⟩ := List.mem_filter.1 hL
            have hh' : (chs L).head? = some i := by simpa using hh
            obtain ⟨pre, post, rfl, hp⟩ := hsplit L hLF hh'
            obtain ⟨h1, h2, _⟩ := hall _ hLF
            have h4 := h _ hLF hh'
            rw [rid_app h2.nodup] at h4 ⊢
            exact ⟨by simp at h1 ⊢; omega, h2.rid hsz, h4⟩
          · intro j hj hju hjf
            have hne : i ≠ j := by
              rintro rfl
              have hs : i < listed.size := by rw [hsz]; exact hlt
              simp [Array.getD_eq_getD_getElem?, hs] at hju
            rw [getD_set_ne true hne] at hju
            exact List.mem_filter.2 ⟨hrem j hj hju hjf, by simpa using Ne.symm hne⟩
          · intro j hj
            obtain ⟨hj1, hj2⟩ := List.mem_filter.1 hj
            have hne : i ≠ j := by
              rintro rfl; simp at hj2
            rw [getD_set_ne true hne]
            exact hrem' j hj1
        have hone : ∀ L ∈ F, (chs L).head? = some i → if Region.wanted o (yielded ops a.tmps) then o.wp P a w (fun a' w' => S w' ∧ wpG P ops S Q (rid i L) a' w') noExit else wpG P ops S Q (rid i L) (a.put o.dst undef) w := by
          intro L hL hh
          obtain ⟨pre, post, rfl, hp⟩ := hsplit L hL hh
          obtain ⟨h1, h2, h3⟩ := hall _ hL
          rw [rid_app h2.nodup]
          exact hoistC ho post pre a w (fun p hpp => ⟨hp p hpp, fun op hop => hpre pre post false h2 p hpp (.inl (hp p hpp)) op hop⟩) h3
        split
        · rename_i hw
          refine .inl ?_
          obtain ⟨L0, hL0⟩ := List.exists_mem_of_ne_nil _ hF'
          obtain ⟨hL0F, hh0⟩ := List.mem_filter.1 hL0
          have h0 := hone L0 hL0F (by simpa using hh0)
          have hrest : ∀ L ∈ F, (chs L).head? = some i → o.wp P a w (fun a' w' => S w' ∧ wpG P ops S Q (rid i L) a' w') noExit := fun L hL hh => by
            have := hone L hL hh
            rw [if_pos hw] at this; exact this
          rw [if_pos hw] at h0
          unfold Oper.wp at h0 hrest ⊢
          cases hr : (execOp a.eval o).run P w with
          | ok nx w' =>
            obtain ⟨u, rfl⟩ := value_of_valueOp (hval i o ho hfo) hr
            rw [hr] at h0
            refine hnew _ _ h0.1 fun L hL hh => ?_
            have := hrest L hL hh
            rw [hr] at this
            exact this.2
          | halt x w' =>
            rw [hr] at h0
            cases x <;> simp only [Oper.upon] at h0 ⊢
            exact h0.elim
        · rename_i hw
          refine hnew _ _ hS fun L hL hh => ?_
          have := hone L hL hh
          rw [if_neg hw] at this
          exact this

/-- The operations in a drawn order. -/
def nth (l : List Oper) (i : Nat) : Oper := l.getD i ⟨none, .move (.const undef), 0, "", #[], none⟩
def pick (l : List Oper) (π : List Nat) : List Oper := π.map (nth l)
def flagsAt (flo : Oper → Bool) (l : List Oper) (π : List Nat) : List (Bool × Nat) := π.map fun i => (flo (nth l i), i)

theorem wpG_of_pick {flo : Oper → Bool} {Q : Act → World → Prop} {l : List Oper} : ∀ (π : List Nat) (a : Act) (w : World), (∀ i ∈ π, i < l.length) → wpL P l.toArray flo S Q (pick l π) a w → wpG P l.toArray S Q (flagsAt flo l π) a w
  | [], _, _, _, h => h
  | i :: π, a, w, hl, h => by
    have hi : i < l.length := hl i (List.mem_cons_self ..)
    have h0 : l.toArray[i]? = some (nth l i) := by simp [nth, hi]
    have ih := fun a w => wpG_of_pick (flo := flo) (Q := Q) π a w (fun j hj => hl j (List.mem_cons_of_mem _ hj))
    simp only [pick, List.map_cons, wpL] at h
    simp only [flagsAt, List.map_cons, wpG, h0]
    split
    · rename_i hw; rw [if_pos hw] at h
      split
      · rename_i hf; rw [if_pos hf] at h; obtain ⟨v, h1, h2⟩ := h; exact ⟨v, h1, ih _ _ h2⟩
      · rename_i hf; rw [if_neg hf] at h; exact Oper.wp_mono (fun a' w' hh => ⟨hh.1, ih _ _ hh.2⟩) h
    · rename_i hw; rw [if_neg hw] at h; exact ih _ _ h

/-- Each operation stands behind those that its edges name; each stands there once. -/
def topoOk (l : List Oper) : List Nat → List Nat → Bool
  | _, [] => true
  | done, i :: π => decide (i < l.length) && !done.contains i && (nth l i).after.all (fun e => !Region.binds .any e || done.contains e.on) && topoOk l (i :: done) π
def bitOf (l : List Oper) (i j : Nat) : Bool := ((masksFrom #[] l).getD j 0).testBit i
def chkF (flo : Oper → Bool) (l : List Oper) (πs : List (List Nat)) : Bool :=
  let m := masksFrom #[] l
  Region.noSelect l.toArray && (l.zipIdx.all fun (o, j) => o.after.all fun e => !Region.binds .any e || decide (e.on < j)) &&
    ((List.range l.length).all fun j => (List.range j).all fun i => (m.getD j 0).testBit i || ((!flo (nth l i) && !flo (nth l j)) || (nth l i).apart l.toArray (nth l j))) &&
    (l.all fun o => flo o || valueOp o) && !πs.isEmpty && πs.all (fun π => π.length == l.length && topoOk l [] π && (List.range l.length).all (fun i => π.contains i)) &&
    cov (fun i j => (m.getD j 0).testBit i) l.length ((List.range l.length).filter fun j => !flo (nth l j)) (πs.map fun π => chs (flagsAt flo l π))

theorem topo_spec {l : List Oper} : ∀ (π done : List Nat), topoOk l done π = true → (∀ j ∈ done, ∀ o, l.toArray[j]? = some o → ∀ e ∈ o.after, Region.binds .any e = true → e.on ∈ done) →
    (∀ i ∈ π, i < l.length ∧ i ∉ done) ∧ π.Pairwise (fun x y => x ≠ y ∧ ¬ Anc l.toArray y x)
  | [], done, _, _ => ⟨fun i hi => (by cases hi), List.Pairwise.nil⟩
  | i :: π, done, h, hcl => by
    simp only [topoOk, Bool.and_eq_true] at h
    obtain ⟨⟨⟨h1, h2⟩, h3⟩, h4⟩ := h
    have hi : i < l.length := by simpa using h1
    have hnd : i ∉ done := by simpa using h2
    have hop : ∀ o, l.toArray[i]? = some o → o = nth l i := fun o ho => by simp [hi] at ho; simp [nth, hi, ho]
    have hdeps : ∀ o, l.toArray[i]? = some o → ∀ e ∈ o.after, Region.binds .any e = true → e.on ∈ done := fun o ho e he hb => by
      rw [hop o ho] at he
      have := Array.all_eq_true_iff_forall_mem.1 h3 e he
      simpa [hb] using this
    obtain ⟨g1, g2⟩ := topo_spec π (i :: done) h4 (fun j hj o ho e he hb => by
      rcases List.mem_cons.1 hj with rfl | hj
      · exact List.mem_cons_of_mem _ (hdeps o ho e he hb)
      · exact List.mem_cons_of_mem _ (hcl j hj o ho e he hb))
    have hanc : ∀ k j, Anc l.toArray k j → (∀ o, l.toArray[j]? = some o → ∀ e ∈ o.after, Region.binds .any e = true → e.on ∈ done) → k ∈ done := by
      intro k j h
      induction h with
      | edge hj he hb => exact fun hd => hd _ hj _ he hb
      | step hj he hb _ ih => exact fun hd => ih (hcl _ (hd _ hj _ he hb))
    refine ⟨fun k hk => ?_, List.pairwise_cons.2 ⟨fun y hy => ⟨?_, fun h => ?_⟩, g2⟩⟩
    · rcases List.mem_cons.1 hk with rfl | hk
      · exact ⟨hi, hnd⟩
      · exact ⟨(g1 k hk).1, fun h => (g1 k hk).2 (List.mem_cons_of_mem _ h)⟩
    · rintro rfl; exact (g1 _ hy).2 (List.mem_cons_self ..)
    · exact (g1 y hy).2 (List.mem_cons_of_mem _ (hanc y i h hdeps))
end

/-- A region that draws its order, walked once for each of the orders given. -/
theorem regionF {P : Program} {id : Nat} {Q : Exit → Act → World → Prop} {a : Act} {w : World} {l : List Oper} (flo : Oper → Bool) (S : World → Prop) (πs : List (List Nat)) (hm : P.follows .mixedOrders = true) (hB : chkF flo l πs = true)
    (hS : S w.drew) (h : ∀ OPS : Array Oper, Veil (OPS = l.toArray) → ∀ R : Act → World → Prop, (∀ a' w', Q .normal a' w' → R a' w') → ∀ π ∈ πs, wpL P OPS flo S R (pick l π) a w.drew) : (Code.region id l.toArray true).wp P Q a w := by
  simp only [chkF, Bool.and_eq_true] at hB
  obtain ⟨⟨⟨⟨⟨⟨hsel, hlow⟩, hp⟩, hvo⟩, hne⟩, hπ⟩, hcov⟩ := hB
  have hsel' := Region.noSelect_spec hsel
  have hbit : ∀ i j, ((masksFrom #[] l).getD j 0).testBit i = true → Anc l.toArray i j := masksFrom_spec (ops := l.toArray) l #[] (fun j => by simp) (by simp)
  refine wp_region_any hm ?_
  have hget : ∀ j o, l.toArray[j]? = some o → j < l.length ∧ o = nth l j := fun j o ho => by
    have hj : j < l.length := by simpa using (Array.getElem?_eq_some_iff.1 ho).1
    simp [hj] at ho; exact ⟨hj, by simp [nth, hj, ho]⟩
  refine wpAny_of_fam (S := S) (P := P) (Q := fun a' w' => Q .normal a' w') (flo := flo) (fun _ _ h => h) (bit := fun i j => ((masksFrom #[] l).getD j 0).testBit i) hbit ?_ ?_ ?_ _ l.length (πs.map (flagsAt flo l)) ((List.range l.length).filter fun j => !flo (nth l j)) _ a _ ?_ (by simp) ?_ ?_ ?_ ?_ ?_ hS
  · intro j o ho hf
    obtain ⟨hj, rfl⟩ := hget j o ho
    have := List.all_eq_true.1 hvo (nth l j) (by simp [nth, hj])
    simpa [hf] using this
  · intro j o ho e he hb
    have hl : l[j]? = some o := by simpa using ho
    have hm := List.all_eq_true.1 hlow (o, j) (by rw [List.mem_zipIdx_iff_getElem?]; exact hl)
    have := Array.all_eq_true_iff_forall_mem.1 hm e he
    simpa [hb] using this
  · have one : ∀ i j, i < j → j < l.length → Anc l.toArray i j ∨ ∀ x y, l.toArray[i]? = some x → l.toArray[j]? = some y → (flo x = true ∨ flo y = true) → Apart l.toArray x y := by
      intro i j hij hj
      have h1 := List.all_eq_true.1 (List.all_eq_true.1 hp j (List.mem_range.2 hj)) i (List.mem_range.2 hij)
      rw [Bool.or_eq_true] at h1
      rcases h1 with h1 | h1
      · exact .inl (hbit i j h1)
      · refine .inr fun x y hx hy hf => ?_
        obtain ⟨_, rfl⟩ := hget i x hx
        obtain ⟨_, rfl⟩ := hget j y hy
        rw [Bool.or_eq_true] at h1
        rcases h1 with h1 | h1
        · rcases hf with hf | hf <;> simp [hf] at h1
        · obtain ⟨s1, s2, s3⟩ := Oper.apart_spec h1
          exact ⟨s1, s2, s3, fun cs b => hsel' i _ cs b hx, fun cs b => hsel' j _ cs b hy⟩
    intro i j hi hj hij
    rcases Nat.lt_or_gt_of_ne hij with hlt | hlt
    · exact (one i j hlt (by simpa using hj)).imp (fun h => h) .inr
    · rcases one j i hlt (by simpa using hi) with h1 | h1
      · exact .inr (.inl h1)
      · exact .inr (.inr fun x y hx hy hf => (h1 y x hy hx hf.symm).symm)
  · simpa using hne
  · intro j hj; rw [getD_replicate_false] at hj; cases hj
  · intro L hL
    obtain ⟨π, hπm, rfl⟩ := List.mem_map.1 hL
    have hc := List.all_eq_true.1 hπ π hπm
    simp only [Bool.and_eq_true] at hc
    obtain ⟨⟨hlen, htop⟩, hfull⟩ := hc
    obtain ⟨t1, t2⟩ := topo_spec π [] htop (fun j hj => by cases hj)
    refine ⟨by simpa [flagsAt] using hlen, ⟨fun f i hfi => ?_, fun i hi _ => ?_, ?_, ?_⟩, ?_⟩
    · obtain ⟨j, hj, he⟩ := List.mem_map.1 hfi
      injection he with e1 e2
      subst e2
      have hj' := (t1 j hj).1
      refine ⟨by simpa using hj', by simp [hj'], fun o ho => ?_⟩
      obtain ⟨_, rfl⟩ := hget _ _ ho
      exact e1
    · have hi' : i < l.length := by simpa using hi
      have := List.all_eq_true.1 hfull i (List.mem_range.2 hi')
      exact ⟨flo (nth l i), List.mem_map.2 ⟨i, by simpa using this, rfl⟩⟩
    · exact List.pairwise_map.2 (t2.imp fun h => h.1)
    · exact List.pairwise_map.2 (t2.imp fun h => h.2)
    · exact wpG_of_pick π a _ (fun i hi => (t1 i hi).1) (h l.toArray rfl _ (fun _ _ h => h) π hπm)
  · intro j hj _ hf
    have hj' : j < l.length := by simpa using hj
    refine List.mem_filter.2 ⟨List.mem_range.2 hj', ?_⟩
    have := hf (nth l j) (by simp [nth, hj'])
    simp [this]
  · intro j hj
    obtain ⟨h1, h2⟩ := List.mem_filter.1 hj
    have hj' : j < l.length := List.mem_range.1 h1
    refine ⟨by simp [hj'], fun o ho => ?_⟩
    obtain ⟨_, rfl⟩ := hget _ _ ho
    simpa using h2
  · rw [List.map_map]; exact hcov
end Go.RX
