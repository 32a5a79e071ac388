import Derived.Test.YtlfhildbjipheaaGreatDoorGridL
import Derived.Test.YtlfhildbjipheaaGreatDoorKRefA
import Derived.Test.YtlfhildbjipheaaGreatDoorListP
import Derived.Test.YtlfhildbjipheaaGreatDoorKLin
set_option linter.unusedSimpArgs false
set_option linter.unusedVariables false
namespace Go.Grid

/-! What the shares of a place say: the same for all addresses; the corners' weights; neighbours. No program in sight. -/
/-- The corner of a face that bears the step at a vertex, of the weights rounded down. -/
def upAt (h : Nat) (p : Pl) (f u : Nat) : Pl :=
  ⟨f, wt p (tab f).1 - wt p (tab f).1 % h + (if u = (tab f).1 then h else 0), wt p (tab f).2.1 - wt p (tab f).2.1 % h + (if u = (tab f).2.1 then h else 0), wt p (tab f).2.2 - wt p (tab f).2.2 % h + (if u = (tab f).2.2 then h else 0)⟩
/-- The weights lie on a face. -/
def OnF (p : Pl) (f : Nat) : Prop := ∀ v, v < 12 → v ≠ (tab f).1 → v ≠ (tab f).2.1 → v ≠ (tab f).2.2 → wt p v = 0
theorem onF_own (p : Pl) : OnF p p.f := fun v _ h1 h2 h3 => by unfold wt; rw [if_neg h1, if_neg h2, if_neg h3]
theorem onF_on {p : Pl} (hp : p.Ok) {g : Nat} (h : okB (on g p) = true) : OnF p g := by
  have hs : sum12 (wt p) = wt p (tab g).1 + wt p (tab g).2.1 + wt p (tab g).2.2 := by
    rw [sum12_wt, hp.s]; unfold okB on at h; simpa using (beq_iff_eq.1 h).symm
  exact fun v hv h1 h2 h3 => rest_zero (wt p) g hs v hv h1 h2 h3
theorem wt_upAt {h : Nat} {p : Pl} {f u : Nat} (hF : OnF p f) (hu : u = (tab f).1 ∨ u = (tab f).2.1 ∨ u = (tab f).2.2) {v : Nat} (hv : v < 12) : wt (upAt h p f u) v = wt p v - wt p v % h + (if u = v then h else 0) := by
  obtain ⟨n1, n2, n3⟩ := tab_ne f
  show (if v = (tab f).1 then _ else if v = (tab f).2.1 then _ else if v = (tab f).2.2 then _ else 0) = _
  by_cases h1 : v = (tab f).1
  · rw [if_pos h1, h1]; rfl
  · by_cases h2 : v = (tab f).2.1
    · rw [if_neg h1, if_pos h2, h2]; rfl
    · by_cases h3 : v = (tab f).2.2
      · rw [if_neg h1, if_neg h2, if_pos h3, h3]; rfl
      · rw [if_neg h1, if_neg h2, if_neg h3, hF v hv h1 h2 h3, if_neg (by rintro rfl; rcases hu with h | h | h <;> contradiction)]
        simp
theorem fm_congr {α β : Type} {f g : α → Option β} : ∀ l : List α, (∀ x ∈ l, f x = g x) → l.filterMap f = l.filterMap g
  | [], _ => rfl
  | x :: l, h => by rw [List.filterMap_cons, List.filterMap_cons, h x (by simp), fm_congr l (fun y hy => h y (by simp [hy]))]
/-- The shares by vertices. -/
def entry (n : Nat) (p : Pl) (f u : Nat) : Option (Nat × Nat) := if 0 < wt p u % hh n * n then some (atL n (upAt (hh n) p f u), wt p u % hh n * n) else none
def corners (f : Nat) : List Nat := [(tab f).1, (tab f).2.1, (tab f).2.2]
theorem corners_range : ∀ f, f < 20 → (List.range 12).Perm (corners f ++ (List.range 12).filter (fun v => decide (v ∉ corners f))) := by decide +kernel
theorem entries_all {n : Nat} {p : Pl} {f : Nat} (hf : f < 20) (hF : OnF p f) : ((corners f).filterMap (entry n p f)).Perm ((List.range 12).filterMap (entry n p f)) := by
  have h := (corners_range f hf).filterMap (entry n p f)
  rw [List.filterMap_append] at h
  have h0 : ((List.range 12).filter (fun v => decide (v ∉ corners f))).filterMap (entry n p f) = [] := by
    rw [List.filterMap_eq_nil_iff]
    intro v hv
    obtain ⟨h1, h2⟩ := List.mem_filter.1 hv
    have h3 : v ∉ corners f := by simpa using h2
    simp only [corners, List.mem_cons, List.not_mem_nil, or_false, not_or] at h3
    unfold entry
    rw [hF v (by simpa using h1) h3.1 h3.2.1 h3.2.2]
    simp
  rw [h0, List.append_nil] at h
  exact h.symm
theorem locRaw_up {n : Nat} {p : Pl} (hx : p.a % hh n * n + p.b % hh n * n + p.c % hh n * n = 840) : locRaw n p = (corners p.f).filterMap (entry n p p.f) := by
  obtain ⟨o1, o2, o3⟩ := wt_own p
  obtain ⟨n1, n2, n3⟩ := tab_ne p.f
  have e1 : upAt (hh n) p p.f (tab p.f).1 = ⟨p.f, p.a - p.a % hh n + hh n, p.b - p.b % hh n, p.c - p.c % hh n⟩ := by
    unfold upAt; rw [o1, o2, o3, if_pos rfl, if_neg n1, if_neg n2]; rfl
  have e2 : upAt (hh n) p p.f (tab p.f).2.1 = ⟨p.f, p.a - p.a % hh n, p.b - p.b % hh n + hh n, p.c - p.c % hh n⟩ := by
    unfold upAt; rw [o1, o2, o3, if_pos rfl, if_neg (Ne.symm n1), if_neg n3]; rfl
  have e3 : upAt (hh n) p p.f (tab p.f).2.2 = ⟨p.f, p.a - p.a % hh n, p.b - p.b % hh n, p.c - p.c % hh n + hh n⟩ := by
    unfold upAt; rw [o1, o2, o3, if_pos rfl, if_neg (Ne.symm n2), if_neg (Ne.symm n3)]; rfl
  have hl : locAll n p = [(⟨p.f, p.a - p.a % hh n + hh n, p.b - p.b % hh n, p.c - p.c % hh n⟩, p.a % hh n * n), (⟨p.f, p.a - p.a % hh n, p.b - p.b % hh n + hh n, p.c - p.c % hh n⟩, p.b % hh n * n), (⟨p.f, p.a - p.a % hh n, p.b - p.b % hh n, p.c - p.c % hh n + hh n⟩, p.c % hh n * n)] := by
    unfold locAll; dsimp only; rw [if_neg (by omega), if_pos hx]
  unfold locRaw corners
  rw [hl]
  simp only [List.filterMap_cons, List.filterMap_nil, entry, o1, o2, o3, e1, e2, e3]
  by_cases a : 0 < p.a % hh n * n <;> by_cases b : 0 < p.b % hh n * n <;> by_cases c : 0 < p.c % hh n * n <;> simp [List.filter_cons, a, b, c]
theorem locRaw_at {n : Nat} {p : Pl} (hx : p.a % hh n * n + p.b % hh n * n + p.c % hh n * n = 0) : locRaw n p = [(atL n p, 840)] := by
  unfold locRaw locAll; dsimp only; rw [if_pos hx]; simp
theorem atL_congr {n : Nat} {p q : Pl} (hp : p.Ok) (hq : q.Ok) (h : ∀ v, v < 12 → wt p v = wt q v) : atL n p = atL n q := by
  unfold atL; rw [normal_congr hp hq h]
theorem upAt_ok {n : Nat} {p : Pl} {f u : Nat} (h1 : 1 ≤ n) (hn : n * hh n = 840) (hf : f < 20) (hs : wt p (tab f).1 + wt p (tab f).2.1 + wt p (tab f).2.2 = 840) (hx : wt p (tab f).1 % hh n * n + wt p (tab f).2.1 % hh n * n + wt p (tab f).2.2 % hh n * n = 840) (hu : u = (tab f).1 ∨ u = (tab f).2.1 ∨ u = (tab f).2.2) : (upAt (hh n) p f u).Ok := by
  obtain ⟨n1, n2, n3⟩ := tab_ne f
  have e2 : wt p (tab f).1 % hh n + wt p (tab f).2.1 % hh n + wt p (tab f).2.2 % hh n = hh n := by
    rw [← Nat.add_mul, ← Nat.add_mul, ← hn, Nat.mul_comm n] at hx
    exact Nat.eq_of_mul_eq_mul_right (by omega) hx
  have m1 := Nat.mod_le (wt p (tab f).1) (hh n)
  have m2 := Nat.mod_le (wt p (tab f).2.1) (hh n)
  have m3 := Nat.mod_le (wt p (tab f).2.2) (hh n)
  refine ⟨hf, ?_⟩
  show _ + _ + _ = 840
  unfold upAt
  dsimp only
  rcases hu with rfl | rfl | rfl
  · rw [if_pos rfl, if_neg n1, if_neg n2]; omega
  · rw [if_pos rfl, if_neg (Ne.symm n1), if_neg n3]; omega
  · rw [if_pos rfl, if_neg (Ne.symm n2), if_neg (Ne.symm n3)]; omega
theorem rem_all {n : Nat} {p : Pl} : p.a % hh n * n + p.b % hh n * n + p.c % hh n * n = 0 ↔ ∀ v, v < 12 → wt p v % hh n * n = 0 := by
  obtain ⟨o1, o2, o3⟩ := wt_own p
  obtain ⟨t1, t2, t3⟩ := tab_lt p.f
  constructor
  · intro h v hv
    by_cases h1 : v = (tab p.f).1
    · rw [h1, o1]; omega
    · by_cases h2 : v = (tab p.f).2.1
      · rw [h2, o2]; omega
      · by_cases h3 : v = (tab p.f).2.2
        · rw [h3, o3]; omega
        · rw [onF_own p v hv h1 h2 h3]; simp
  · intro h
    have a := h _ t1
    have b := h _ t2
    have c := h _ t3
    rw [o1] at a
    rw [o2] at b
    rw [o3] at c
    omega
theorem mem_corners {v f : Nat} : v ∈ corners f ↔ v = (tab f).1 ∨ v = (tab f).2.1 ∨ v = (tab f).2.2 := by simp [corners]
/-- A place within a face has one address. -/
theorem on_inner {p : Pl} (hp : p.Ok) (ha : 0 < p.a) (hb : 0 < p.b) (hc : 0 < p.c) {g : Nat} (hg : g < 20) (hF : OnF p g) : g = p.f := by
  obtain ⟨o1, o2, o3⟩ := wt_own p
  obtain ⟨t1, t2, t3⟩ := tab_lt p.f
  have key : ∀ v, v < 12 → 0 < wt p v → v ∈ [(tab g).1, (tab g).2.1, (tab g).2.2] := fun v hv h0 => by
    by_cases h : v ∈ [(tab g).1, (tab g).2.1, (tab g).2.2]
    · exact h
    · simp only [List.mem_cons, List.not_mem_nil, or_false, not_or] at h
      have := hF v hv h.1 h.2.1 h.2.2
      omega
  refine tab_inj p.f hp.f g hg (fun v hv => ?_)
  simp only [List.mem_cons, List.not_mem_nil, or_false] at hv
  rcases hv with rfl | rfl | rfl
  · exact key _ t1 (by rw [o1]; exact ha)
  · exact key _ t2 (by rw [o2]; exact hb)
  · exact key _ t3 (by rw [o3]; exact hc)
theorem rem_edge {n : Nat} {p : Pl} (h1 : 1 ≤ n) (hn : n * hh n = 840) (hp : p.Ok) (h0 : p.a = 0 ∨ p.b = 0 ∨ p.c = 0) : p.a % hh n * n + p.b % hh n * n + p.c % hh n * n = 0 ∨ p.a % hh n * n + p.b % hh n * n + p.c % hh n * n = 840 := by
  have ra := rem_le (a := p.a) h1 hn
  have rb := rem_le (a := p.b) h1 hn
  have rc := rem_le (a := p.c) h1 hn
  have hs := rem_sum h1 hn hp
  have z : (0 : Nat) % hh n * n = 0 := by simp
  rcases h0 with h | h | h
  · rw [h, z] at hs ⊢; omega
  · rw [h, z] at hs ⊢; omega
  · rw [h, z] at hs ⊢; omega
/-- All addresses of a place have the same shares. -/
theorem addr_loc {n : Nat} {p : Pl} (h1 : 1 ≤ n) (hn : n * hh n = 840) (hp : p.Ok) {g : Nat} (hg : g < 20) (hok : okB (on g p) = true) : (locRaw n (on g p)).Perm (locRaw n p) := by
  have hF := onF_on hp hok
  have hw := fun v hv => wt_on hp hok v hv
  have hq : (on g p).Ok := ⟨hg, by simpa [okB] using hok⟩
  by_cases hin : 0 < p.a ∧ 0 < p.b ∧ 0 < p.c
  · have := on_inner hp hin.1 hin.2.1 hin.2.2 hg hF
    rw [this, on_self]
  · have hqz : (on g p).a = 0 ∨ (on g p).b = 0 ∨ (on g p).c = 0 := by
      by_cases h : (on g p).a = 0 ∨ (on g p).b = 0 ∨ (on g p).c = 0
      · exact h
      · exfalso
        have h2 : OnF (on g p) p.f := fun v hv a b c => by rw [hw v hv]; exact onF_own p v hv a b c
        have := on_inner hq (by omega) (by omega) (by omega) hp.f h2
        have e : on g p = p := by
          have e2 : g = p.f := this.symm
          rw [e2, on_self]
        rw [e] at h
        omega
    have sp := rem_edge h1 hn hp (by omega)
    have sq := rem_edge h1 hn hq hqz
    have hiff : ((on g p).a % hh n * n + (on g p).b % hh n * n + (on g p).c % hh n * n = 0) ↔ (p.a % hh n * n + p.b % hh n * n + p.c % hh n * n = 0) := by
      rw [rem_all, rem_all]
      exact ⟨fun h v hv => by rw [← hw v hv]; exact h v hv, fun h v hv => by rw [hw v hv]; exact h v hv⟩
    by_cases h0 : p.a % hh n * n + p.b % hh n * n + p.c % hh n * n = 0
    · rw [locRaw_at h0, locRaw_at (hiff.2 h0), atL_congr hq hp hw]
    · have h840 : p.a % hh n * n + p.b % hh n * n + p.c % hh n * n = 840 := by omega
      have q840 : (on g p).a % hh n * n + (on g p).b % hh n * n + (on g p).c % hh n * n = 840 := by
        rcases sq with h | h
        · exact absurd (hiff.1 h) h0
        · exact h
      rw [locRaw_up h840, locRaw_up q840]
      refine (entries_all hq.f (onF_own _)).trans (List.Perm.trans ?_ (entries_all hp.f (onF_own p)).symm)
      have : (List.range 12).filterMap (entry n (on g p) (on g p).f) = (List.range 12).filterMap (entry n p p.f) := by
        refine fm_congr _ (fun u hu => ?_)
        have hu12 : u < 12 := by simpa using hu
        unfold entry
        rw [hw u hu12]
        by_cases hpos : 0 < wt p u % hh n * n
        · rw [if_pos hpos, if_pos hpos]
          have hne : wt p u ≠ 0 := by intro h; rw [h] at hpos; simp at hpos
          have c1 : u = (tab p.f).1 ∨ u = (tab p.f).2.1 ∨ u = (tab p.f).2.2 := by
            by_cases h : u = (tab p.f).1 ∨ u = (tab p.f).2.1 ∨ u = (tab p.f).2.2
            · exact h
            · exact absurd (onF_own p u hu12 (by omega) (by omega) (by omega)) hne
          have c2 : u = (tab g).1 ∨ u = (tab g).2.1 ∨ u = (tab g).2.2 := by
            by_cases h : u = (tab g).1 ∨ u = (tab g).2.1 ∨ u = (tab g).2.2
            · exact h
            · exact absurd (hF u hu12 (by omega) (by omega) (by omega)) hne
          obtain ⟨o1, o2, o3⟩ := wt_own p
          obtain ⟨r1, r2, r3⟩ := wt_own (on g p)
          have k1 : (upAt (hh n) p p.f u).Ok := upAt_ok h1 hn hp.f (by rw [o1, o2, o3]; exact hp.s) (by rw [o1, o2, o3]; exact h840) c1
          have r1' : wt (on g p) (tab g).1 = (on g p).a := r1
          have r2' : wt (on g p) (tab g).2.1 = (on g p).b := r2
          have r3' : wt (on g p) (tab g).2.2 = (on g p).c := r3
          have k2 : (upAt (hh n) (on g p) g u).Ok := upAt_ok h1 hn hg (by rw [r1', r2', r3']; exact hq.s) (by rw [r1', r2', r3']; exact q840) c2
          have e : atL n (upAt (hh n) (on g p) g u) = atL n (upAt (hh n) p p.f u) := atL_congr k2 k1 (fun v hv => by
            rw [wt_upAt (p := on g p) (fun v hv a b c => by rw [hw v hv]; exact hF v hv a b c) c2 hv, wt_upAt (onF_own p) c1 hv, hw v hv])
          show some (atL n (upAt (hh n) (on g p) g u), _) = _
          rw [e]
        · rw [if_neg hpos, if_neg hpos]
      rw [this]
/-- .. for all of the list of addresses. -/
theorem mem_addrs {p q : Pl} (hp : p.Ok) (h : q ∈ addrs p 20) : ∃ g, g < 20 ∧ okB (on g p) = true ∧ q = on g p := by
  obtain ⟨g, hg, rfl⟩ := List.mem_map.1 h
  obtain ⟨h1, h2⟩ := List.mem_filter.1 hg
  exact ⟨g, by simpa using h1, h2, rfl⟩

/-! ### The corners' weights -/
/-- The weights of a vertex at the nodes, times the shares. -/
def wdot (n : Nat) (v : Nat) (S : List (Nat × Nat)) : Nat := (S.map (fun c => c.2 * wt ((nodesL n).getD c.1 ⟨0, 0, 0, 0⟩) v)).sum
theorem wdot_perm {n v : Nat} {S T : List (Nat × Nat)} (h : S.Perm T) : wdot n v S = wdot n v T := (h.map _).sum_nat
theorem node_wt {n : Nat} (h1 : 1 ≤ n) (hn : n * hh n = 840) {p : Pl} (hp : p.Ok) {c : Pl × Nat} (hc : c ∈ locAll n p) {v : Nat} (hv : v < 12) : wt ((nodesL n).getD (atL n c.1) ⟨0, 0, 0, 0⟩) v = wt c.1 v := by
  obtain ⟨hok, hf, i, j, hij, e⟩ := loc_ok h1 hn hp c hc
  obtain ⟨_, hlt, hnode⟩ := atL_lat hn hp.f hij
  rw [e] at hok ⊢
  rw [List.getD_eq_getElem?_getD, List.getElem?_eq_getElem hlt, Option.getD_some, hnode]
  exact wt_normal hok v hv
theorem wdot_all {n : Nat} (h1 : 1 ≤ n) (hn : n * hh n = 840) {p : Pl} (hp : p.Ok) {v : Nat} (hv : v < 12) : wdot n v (locRaw n p) = ((locAll n p).map (fun c => c.2 * wt c.1 v)).sum := by
  have key : ∀ l : List (Pl × Nat), (∀ c ∈ l, c ∈ locAll n p) → wdot n v ((l.filter (fun c => decide (0 < c.2))).map (fun c => (atL n c.1, c.2))) = (l.map (fun c => c.2 * wt c.1 v)).sum := by
    intro l
    induction l with
    | nil => intro _; rfl
    | cons c l ih =>
      intro hl
      have ih := ih (fun x hx => hl x (List.mem_cons_of_mem _ hx))
      have hc := node_wt h1 hn hp (hl c (by simp)) hv
      unfold wdot at ih ⊢
      by_cases h : 0 < c.2
      · rw [List.filter_cons_of_pos (by simpa using h)]
        simp only [List.map_cons, List.sum_cons, hc]
        omega
      · have h0 : c.2 = 0 := by omega
        rw [List.filter_cons_of_neg (by simpa using h)]
        simp only [List.map_cons, List.sum_cons, h0, Nat.zero_mul, Nat.zero_add]
        omega
  exact key _ (fun c hc => hc)
theorem lin_up {X Y Z A h a r : Nat} (hs : X + Y + Z = 840) (hX : X * h = 840 * r) (ha : A + r = a) : X * (A + h) + (Y * A + (Z * A + 0)) = 840 * a := by
  have e : X * A + Y * A + Z * A = 840 * A := by rw [← Nat.add_mul, ← Nat.add_mul, hs]
  rw [Nat.mul_add]; omega
theorem lin_up2 {X Y Z A h a r : Nat} (hs : X + Y + Z = 840) (hX : Y * h = 840 * r) (ha : A + r = a) : X * A + (Y * (A + h) + (Z * A + 0)) = 840 * a := by
  have e : X * A + Y * A + Z * A = 840 * A := by rw [← Nat.add_mul, ← Nat.add_mul, hs]
  rw [Nat.mul_add]; omega
theorem lin_up3 {X Y Z A h a r : Nat} (hs : X + Y + Z = 840) (hX : Z * h = 840 * r) (ha : A + r = a) : X * A + (Y * A + (Z * (A + h) + 0)) = 840 * a := by
  have e : X * A + Y * A + Z * A = 840 * A := by rw [← Nat.add_mul, ← Nat.add_mul, hs]
  rw [Nat.mul_add]; omega
theorem lin_down {X Y Z A h a r : Nat} (hs : X + Y + Z = 840) (hX : Y * h + Z * h = 840 * r) (ha : A + r = a) : X * A + (Y * (A + h) + (Z * (A + h) + 0)) = 840 * a := by
  have e : X * A + Y * A + Z * A = 840 * A := by rw [← Nat.add_mul, ← Nat.add_mul, hs]
  rw [Nat.mul_add, Nat.mul_add]; omega
theorem lin_down2 {X Y Z A h a r : Nat} (hs : X + Y + Z = 840) (hX : X * h + Z * h = 840 * r) (ha : A + r = a) : X * (A + h) + (Y * A + (Z * (A + h) + 0)) = 840 * a := by
  have e : X * A + Y * A + Z * A = 840 * A := by rw [← Nat.add_mul, ← Nat.add_mul, hs]
  rw [Nat.mul_add, Nat.mul_add]; omega
theorem lin_down3 {X Y Z A h a r : Nat} (hs : X + Y + Z = 840) (hX : X * h + Y * h = 840 * r) (ha : A + r = a) : X * (A + h) + (Y * (A + h) + (Z * A + 0)) = 840 * a := by
  have e : X * A + Y * A + Z * A = 840 * A := by rw [← Nat.add_mul, ← Nat.add_mul, hs]
  rw [Nat.mul_add, Nat.mul_add]; omega
/-- A linear function of the corners' weights is told exactly. -/
theorem loc_lin {n : Nat} {p : Pl} (h1 : 1 ≤ n) (hn : n * hh n = 840) (hp : p.Ok) {v : Nat} (hv : v < 12) : wdot n v (locRaw n p) = 840 * wt p v := by
  rw [wdot_all h1 hn hp hv]
  have hm : ∀ r, r * n * hh n = 840 * r := fun r => by rw [Nat.mul_assoc, hn, Nat.mul_comm]
  have ra := rem_le (a := p.a) h1 hn
  have rb := rem_le (a := p.b) h1 hn
  have rc := rem_le (a := p.c) h1 hn
  have da := Nat.sub_add_cancel (Nat.mod_le p.a (hh n))
  have db := Nat.sub_add_cancel (Nat.mod_le p.b (hh n))
  have dc := Nat.sub_add_cancel (Nat.mod_le p.c (hh n))
  have ma := hm (p.a % hh n)
  have mb := hm (p.b % hh n)
  have mc := hm (p.c % hh n)
  have w1 := fun a b c => (wt_own ⟨p.f, a, b, c⟩).1
  have w2 := fun a b c => (wt_own ⟨p.f, a, b, c⟩).2.1
  have w3 := fun a b c => (wt_own ⟨p.f, a, b, c⟩).2.2
  dsimp only at w1 w2 w3
  have o := wt_own p
  have hcase : v = (tab p.f).1 ∨ v = (tab p.f).2.1 ∨ v = (tab p.f).2.2 ∨ (v ≠ (tab p.f).1 ∧ v ≠ (tab p.f).2.1 ∧ v ≠ (tab p.f).2.2) := by omega
  have hz : (v ≠ (tab p.f).1 ∧ v ≠ (tab p.f).2.1 ∧ v ≠ (tab p.f).2.2) → ∀ a b c, wt ⟨p.f, a, b, c⟩ v = 0 := fun h a b c => onF_own ⟨p.f, a, b, c⟩ v hv h.1 h.2.1 h.2.2
  have hz0 : (v ≠ (tab p.f).1 ∧ v ≠ (tab p.f).2.1 ∧ v ≠ (tab p.f).2.2) → wt p v = 0 := fun h => onF_own p v hv h.1 h.2.1 h.2.2
  unfold locAll
  dsimp only
  split
  · simp
  · split
    · rename_i h0 h840
      simp only [List.map_cons, List.map_nil, List.sum_cons, List.sum_nil]
      rcases hcase with h | h | h | h
      · rw [h, w1, w1, w1, o.1]; exact lin_up h840 ma da
      · rw [h, w2, w2, w2, o.2.1]; exact lin_up2 h840 mb db
      · rw [h, w3, w3, w3, o.2.2]; exact lin_up3 h840 mc dc
      · rw [hz h, hz h, hz h, hz0 h]; simp
    · rename_i h0 h840
      have h3 : p.a % hh n * n + p.b % hh n * n + p.c % hh n * n = 1680 := by
        rcases rem_sum h1 hn hp with h | h | h
        · exact absurd h h0
        · exact absurd h h840
        · exact h
      simp only [List.map_cons, List.map_nil, List.sum_cons, List.sum_nil]
      have s1 : (840 - p.b % hh n * n) + (840 - p.c % hh n * n) = p.a % hh n * n := by omega
      have s2 : (840 - p.a % hh n * n) + (840 - p.c % hh n * n) = p.b % hh n * n := by omega
      have s3 : (840 - p.a % hh n * n) + (840 - p.b % hh n * n) = p.c % hh n * n := by omega
      rcases hcase with h | h | h | h
      · rw [h, w1, w1, w1, o.1]; exact lin_down (by omega) (by rw [← Nat.add_mul, s1]; exact ma) da
      · rw [h, w2, w2, w2, o.2.1]; exact lin_down2 (by omega) (by rw [← Nat.add_mul, s2]; exact mb) db
      · rw [h, w3, w3, w3, o.2.2]; exact lin_down3 (by omega) (by rw [← Nat.add_mul, s3]; exact mc) dc
      · rw [hz h, hz h, hz h, hz0 h]; simp
end Go.Grid
namespace Go.Proofs.YtlfhildbjipheaaGreatDoor
open Go.RowKit Go.Grid Go.Maps Go.Sort Go.Shelf

/-! ### The shares' nodes are neighbours -/
/-- Two numbers of a cell are neighbours. -/
theorem cell_adj {n : Nat} (h1 : 1 ≤ n) (h8 : n ≤ 8) {u v z : Nat} (hc : sorted [(u : Int), (v : Int), (z : Int)] ∈ cellsRaw n) {x y : Nat} (hx : x = u ∨ x = v ∨ x = z) (hy : y = u ∨ y = v ∨ y = z) (hne : x ≠ y) : (y : Int) ∈ nextL n x := by
  have hp := sorted_perm [(u : Int), (v : Int), (z : Int)]
  have hl := hp.length_eq
  generalize hs : sorted [(u : Int), (v : Int), (z : Int)] = c at *
  match c, hl with
  | [c0, c1, c2], _ =>
    have hm : (c0, c1, c2) ∈ cells3 n := List.mem_map.2 ⟨_, hc, rfl⟩
    have e1 := eds_in hm (e := (c0, c1)) (by simp [eds])
    have e2 := eds_in hm (e := (c0, c2)) (by simp [eds])
    have e3 := eds_in hm (e := (c1, c2)) (by simp [eds])
    have hxm : (x : Int) ∈ [c0, c1, c2] := hp.mem_iff.2 (by simp; omega)
    have hym : (y : Int) ∈ [c0, c1, c2] := hp.mem_iff.2 (by simp; omega)
    simp only [List.mem_cons, List.not_mem_nil, or_false] at hxm hym
    rw [mem_next]
    rcases hxm with hxm | hxm | hxm <;> rcases hym with hym | hym | hym
    · exact absurd (hxm.trans hym.symm) (by omega)
    · exact ⟨_, e1, .inl ⟨by dsimp only; omega, hym⟩⟩
    · exact ⟨_, e2, .inl ⟨by dsimp only; omega, hym⟩⟩
    · exact ⟨_, e1, .inr ⟨by dsimp only; omega, hym⟩⟩
    · exact absurd (hxm.trans hym.symm) (by omega)
    · exact ⟨_, e3, .inl ⟨by dsimp only; omega, hym⟩⟩
    · exact ⟨_, e2, .inr ⟨by dsimp only; omega, hym⟩⟩
    · exact ⟨_, e3, .inr ⟨by dsimp only; omega, hym⟩⟩
    · exact absurd (hxm.trans hym.symm) (by omega)
theorem cell_in {n f a b : Nat} (hf : f < 20) (hab : a + b < n) {c : List Int} (hc : c ∈ cellsAt (nodesL n) (hh n) (cpos n f a b)) : c ∈ cellsRaw n := by
  simp only [cellsRaw, cF, cA, cB, List.mem_flatMap, List.mem_range]
  exact ⟨f, hf, a, by omega, b, by omega, hc⟩
/-- Two corners of the shares of a place are neighbours. -/
theorem loc_adj {n : Nat} {p : Pl} (h1 : 1 ≤ n) (h8 : n ≤ 8) (hp : p.Ok) {c d : Nat × Nat} (hc : c ∈ locRaw n p) (hd : d ∈ locRaw n p) (hne : c.1 ≠ d.1) : (d.1 : Int) ∈ nextL n c.1 := by
  have hn := hh_mul h1 h8
  have hpos : 1 ≤ hh n := hh_pos h1 (by omega)
  simp only [locRaw, List.mem_map, List.mem_filter, decide_eq_true_eq] at hc hd
  obtain ⟨C, ⟨hC, _⟩, rfl⟩ := hc
  obtain ⟨D, ⟨hD, _⟩, rfl⟩ := hd
  dsimp only at hne ⊢
  have hs := hp.s
  have e : p.a % hh n * n + p.b % hh n * n + p.c % hh n * n = (p.a % hh n + p.b % hh n + p.c % hh n) * n := by rw [Nat.add_mul, Nat.add_mul]
  obtain ⟨i, hi⟩ := dvd_base p.a (hh n)
  obtain ⟨j, hj⟩ := dvd_base p.b (hh n)
  obtain ⟨k, hk⟩ := dvd_base p.c (hh n)
  have ma := Nat.mod_le p.a (hh n)
  have mb := Nat.mod_le p.b (hh n)
  have mc := Nat.mod_le p.c (hh n)
  unfold locAll at hC hD
  dsimp only at hC hD
  split at hC
  · rename_i h0
    rw [if_pos h0] at hD
    simp only [List.mem_cons, List.not_mem_nil, or_false] at hC hD
    rw [hC, hD] at hne
    exact absurd rfl hne
  · rename_i h0
    rw [if_neg h0] at hD
    split at hC
    · rename_i h840
      rw [if_pos h840] at hD
      have e2 : p.a % hh n + p.b % hh n + p.c % hh n = hh n := by
        rw [e, ← hn, Nat.mul_comm n] at h840
        exact Nat.eq_of_mul_eq_mul_right (by omega) h840
      have hsum : i + j + k + 1 = n := by
        have : hh n * (i + j + k + 1) = hh n * n := by rw [Nat.mul_add, Nat.mul_add, Nat.mul_add, ← hi, ← hj, ← hk, Nat.mul_comm _ n, hn]; omega
        exact Nat.eq_of_mul_eq_mul_left hpos this
      have hcell : tri (nodesL n) ⟨p.f, p.a - p.a % hh n + hh n, p.b - p.b % hh n, p.c - p.c % hh n⟩ ⟨p.f, p.a - p.a % hh n, p.b - p.b % hh n + hh n, p.c - p.c % hh n⟩ ⟨p.f, p.a - p.a % hh n, p.b - p.b % hh n, p.c - p.c % hh n + hh n⟩ ∈ cellsRaw n := by
        refine cell_in (f := p.f) (a := i) (b := j) hp.f (by omega) ?_
        have ec : cpos n p.f i j = ⟨p.f, p.a - p.a % hh n, p.b - p.b % hh n, p.c - p.c % hh n⟩ := by
          unfold cpos; rw [hi, hj, hk, Nat.mul_comm i, Nat.mul_comm j, Nat.mul_comm _ (hh n), show n - 1 - i - j = k by omega]
        rw [ec]
        simp [cellsAt]
      simp only [List.mem_cons, List.not_mem_nil, or_false] at hC hD
      refine cell_adj h1 h8 hcell ?_ ?_ hne
      · rcases hC with rfl | rfl | rfl
        · exact .inl rfl
        · exact .inr (.inl rfl)
        · exact .inr (.inr rfl)
      · rcases hD with rfl | rfl | rfl
        · exact .inl rfl
        · exact .inr (.inl rfl)
        · exact .inr (.inr rfl)
    · rename_i h840
      rw [if_neg h840] at hD
      have h3 : p.a % hh n * n + p.b % hh n * n + p.c % hh n * n = 1680 := by
        rcases rem_sum h1 hn hp with h | h | h
        · exact absurd h h0
        · exact absurd h h840
        · exact h
      have e2 : p.a % hh n + p.b % hh n + p.c % hh n = hh n + hh n := by
        rw [e, show 1680 = (hh n + hh n) * n by rw [Nat.add_mul, Nat.mul_comm (hh n), hn]] at h3
        exact Nat.eq_of_mul_eq_mul_right (by omega) h3
      have hsum : i + j + k + 2 = n := by
        have : hh n * (i + j + k + 2) = hh n * n := by rw [Nat.mul_add, Nat.mul_add, Nat.mul_add, ← hi, ← hj, ← hk, Nat.mul_comm _ n, hn]; omega
        exact Nat.eq_of_mul_eq_mul_left hpos this
      have hcell : tri (nodesL n) ⟨p.f, p.a - p.a % hh n, p.b - p.b % hh n + hh n, p.c - p.c % hh n + hh n⟩ ⟨p.f, p.a - p.a % hh n + hh n, p.b - p.b % hh n, p.c - p.c % hh n + hh n⟩ ⟨p.f, p.a - p.a % hh n + hh n, p.b - p.b % hh n + hh n, p.c - p.c % hh n⟩ ∈ cellsRaw n := by
        refine cell_in (f := p.f) (a := i) (b := j) hp.f (by omega) ?_
        have ec : cpos n p.f i j = ⟨p.f, p.a - p.a % hh n, p.b - p.b % hh n, p.c - p.c % hh n + hh n⟩ := by
          unfold cpos; rw [hi, hj, hk, Nat.mul_comm i, Nat.mul_comm j, show n - 1 - i - j = k + 1 by omega, Nat.succ_mul, Nat.mul_comm k]
        rw [ec]
        unfold cellsAt
        dsimp only
        rw [if_pos (by omega), Nat.add_sub_cancel]
        simp
      simp only [List.mem_cons, List.not_mem_nil, or_false] at hC hD
      refine cell_adj h1 h8 hcell ?_ ?_ hne
      · rcases hC with rfl | rfl | rfl
        · exact .inl rfl
        · exact .inr (.inl rfl)
        · exact .inr (.inr rfl)
      · rcases hD with rfl | rfl | rfl
        · exact .inl rfl
        · exact .inr (.inl rfl)
        · exact .inr (.inr rfl)
end Go.Proofs.YtlfhildbjipheaaGreatDoor
