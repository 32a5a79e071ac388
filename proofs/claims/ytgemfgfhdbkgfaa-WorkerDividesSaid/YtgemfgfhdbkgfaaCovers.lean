import Derived.Test.YtgemfgfhdbkgfaaSort
set_option linter.unusedSimpArgs false
set_option linter.unusedVariables false
namespace Go.Proofs.Ytgemfgfhdbkgfaa
open Go.RowKit

/-- The ranges follow one another from a to b. -/
def Chain (a : Int) : List (Int × Int) → Int → Prop
  | [], b => a = b
  | r :: l, b => r.1 = a ∧ Chain r.2 l b
theorem chain_snoc : ∀ (l : List (Int × Int)) (a b : Int) (r : Int × Int), Chain a l b → r.1 = b → Chain a (l ++ [r]) r.2
  | [], a, b, r, h, hr => ⟨by have : a = b := h; omega, rfl⟩
  | s :: l, a, b, r, h, hr => ⟨h.1, chain_snoc l s.2 b r h.2 hr⟩
theorem chain_app : ∀ (l m : List (Int × Int)) (a b c : Int), Chain a l b → Chain a (l ++ m) c → Chain b m c
  | [], m, a, b, c, h, h2 => by have : a = b := h; subst this; exact h2
  | s :: l, m, a, b, c, h, h2 => chain_app l m s.2 b c h.2 h2.2
theorem chain_end {l : List (Int × Int)} {a b c : Int} (h : Chain a l b) (h2 : Chain a l c) : b = c := by
  have := chain_app l [] a b c h (by simpa using h2)
  exact this

def inR (k : Int) (r : Int × Int) : Bool := decide (r.1 ≤ k) && decide (k < r.2)
theorem chain_ge : ∀ (l : List (Int × Int)) (a b : Int), (∀ r ∈ l, r.1 < r.2) → Chain a l b → ∀ r ∈ l, a ≤ r.1
  | [], _, _, _, _ => by simp
  | s :: l, a, b, hne, h => by
    intro r hr
    rcases List.mem_cons.1 hr with rfl | hr
    · exact Int.le_of_eq h.1.symm
    · have h1 := chain_ge l s.2 b (fun r hr => hne r (List.mem_cons_of_mem _ hr)) h.2 r hr
      have h2 := hne s List.mem_cons_self
      have := h.1
      omega
theorem count0 {l : List (Int × Int)} {k : Int} (h : ∀ r ∈ l, k < r.1) : l.countP (inR k) = 0 := by
  rw [List.countP_eq_zero]
  intro r hr
  have := h r hr
  simp [inR]; omega
/-- THE PLAIN LAW: ranges that are not empty, sorted by their beginnings, follow one another from a to N exactly if each number from a to N - 1 is in exactly one. -/
theorem chain_iff : ∀ (l : List (Int × Int)) (a N : Int), a ≤ N → (∀ r ∈ l, a ≤ r.1 ∧ r.1 < r.2 ∧ r.2 ≤ N) → l.Pairwise (fun x y => x.1 ≤ y.1) → (Chain a l N ↔ ∀ k, a ≤ k → k < N → l.countP (inR k) = 1)
  | [], a, N, ha, _, _ => by
    simp only [Chain, List.countP_nil]
    constructor
    · intro h k h1 h2; omega
    · intro h
      by_cases haN : a < N
      · have := h a (Int.le_refl _) haN; omega
      · omega
  | r :: l, a, N, ha, hall, hs => by
    have hr := hall r List.mem_cons_self
    have hl : ∀ s ∈ l, r.1 ≤ s.1 := (List.pairwise_cons.1 hs).1
    have hl2 : ∀ s ∈ l, s.1 < s.2 ∧ s.2 ≤ N := fun s hs' => (hall s (List.mem_cons_of_mem _ hs')).2
    have hcons : ∀ k, (r :: l).countP (inR k) = l.countP (inR k) + if inR k r = true then 1 else 0 := fun k => List.countP_cons
    constructor
    · intro h
      have hge := chain_ge l r.2 N (fun s hs' => (hl2 s hs').1) h.2
      have ih := (chain_iff l r.2 N hr.2.2 (fun s hs' => ⟨hge s hs', (hl2 s hs').1, (hl2 s hs').2⟩) (List.pairwise_cons.1 hs).2).1 h.2
      intro k h1 h2
      have h3 := h.1
      rw [hcons]
      by_cases hk : k < r.2
      · rw [count0 (fun s hs' => by have := hge s hs'; omega), if_pos (by simp [inR]; omega)]
      · rw [ih k (by omega) h2, if_neg (by simp [inR]; omega)]
    · intro h
      have haN : a < N := by omega
      have h0 := h a (Int.le_refl _) haN
      have e : r.1 = a := by
        by_cases hlt : a < r.1
        · rw [hcons, count0 (fun s hs' => by have := hl s hs'; omega), if_neg (by simp [inR]; omega)] at h0
          omega
        · omega
      have hge : ∀ s ∈ l, r.2 ≤ s.1 := by
        intro s hs'
        by_cases hlt : s.1 < r.2
        · have h1 := h s.1 (by have := hl s hs'; omega) (by have := hl2 s hs'; omega)
          rw [hcons, if_pos (by have := hl s hs'; simp [inR]; omega)] at h1
          have h2 : 0 < l.countP (inR s.1) := List.countP_pos_iff.2 ⟨s, hs', by have := hl2 s hs'; simp [inR]; omega⟩
          omega
        · omega
      refine ⟨e, (chain_iff l r.2 N hr.2.2 (fun s hs' => ⟨hge s hs', (hl2 s hs').1, (hl2 s hs').2⟩) (List.pairwise_cons.1 hs).2).2 ?_⟩
      intro k h1 h2
      have h3 := h k (by omega) h2
      rw [hcons, if_neg (by simp [inR]; omega)] at h3
      simpa using h3

/-- What a list of ranges is asked: each fits, and each number is in exactly one. -/
def Divides (d : List (Int × Int)) (n : Int) : Prop := (∀ r ∈ d, 0 ≤ r.1 ∧ r.1 ≤ r.2 ∧ r.2 ≤ n) ∧ ∀ k : Int, 0 ≤ k → k < n → d.countP (inR k) = 1
open Classical in
/-- .. as the programs answer it. -/
noncomputable def dividesB (d : List (Int × Int)) (n : Int) : Bool := decide (Divides d n)
theorem dividesB_no {d : List (Int × Int)} {n : Int} (h : ¬ Divides d n) : Value.bool false = Value.bool (dividesB d n) := by simp [dividesB, h]
theorem dividesB_of {d : List (Int × Int)} {n : Int} {b : Bool} (h : b = true ↔ Divides d n) : b = dividesB d n := by
  unfold dividesB
  cases b <;> simp_all
theorem count_kept (d : List (Int × Int)) (k : Int) : (d.filter fun x => !emp x).countP (inR k) = d.countP (inR k) := by
  rw [List.countP_filter]
  congr 1
  funext r
  simp only [inR, emp]
  by_cases h : r.1 = r.2
  · simp [h] <;> omega
  · simp [h]
theorem divides_iff {d d' : List (Int × Int)} {n : Int} (hall : ∀ r ∈ d, 0 ≤ r.1 ∧ r.1 ≤ r.2 ∧ r.2 ≤ n) (hp : d'.Perm (d.filter fun x => !emp x)) (hs : d'.Pairwise (fun x y => x.1 ≤ y.1)) : Chain 0 d' (max n 0) ↔ Divides d n := by
  have h1 : ∀ r ∈ d', 0 ≤ r.1 ∧ r.1 < r.2 ∧ r.2 ≤ max n 0 := by
    intro r hr
    have h2 := List.mem_filter.1 (hp.mem_iff.1 hr)
    have h3 := hall r h2.1
    have h4 : r.1 ≠ r.2 := by simpa [emp] using h2.2
    omega
  rw [chain_iff d' 0 (max n 0) (by omega) h1 hs]
  constructor
  · intro h
    refine ⟨hall, fun k hk hk' => ?_⟩
    have := h k hk (by omega)
    rw [hp.countP_eq, count_kept] at this
    exact this
  · intro h k hk hk'
    rw [hp.countP_eq, count_kept]
    exact h.2 k hk (by omega)

set_option maxHeartbeats 2000000 in
theorem covers_any (w : World) (g : Nat) (d : List (Int × Int)) (p : Option Addr) (cap : Nat) (n : Int) (hp : 0 < d.length → p = some ⟨g, 0, none⟩) (h : PairsAt w g d) (hcap : d.length ≤ cap) (hcap' : d.length ≤ 4611686018427387903) :
    Calls Try.prog 28 #[.slice p d.length cap, .int .i64 n] w fun e w' => w.grownBy w' (some g) ∧ e = .returned (.bool (dividesB d n)) := by
  go_enter Try.func28, Try.ntmps28
  go_wp2
  go_loopw [12] (fun a wr => ∃ k : Nat, k ≤ d.length ∧ a = .int .i64 (k : Int) ∧ Hid (∀ j (hj : j < k) (h : j < d.length), 0 ≤ d[j].1 ∧ d[j].1 ≤ d[j].2 ∧ d[j].2 ≤ n) ∧ w.grownBy wr none) (fun a _ => d.length - (intOf a).toNat)
  case atStart => exact ⟨0, Nat.zero_le _, rfl, Lib.hid fun j hj => by omega, World.grownBy.refl _ _⟩
  case round =>
    obtain ⟨k, hk, rfl, HI, hb⟩ := hrel
    have hw := h.grown hb
    by_cases hlt : k < d.length
    · obtain rfl := hp (by omega)
      have c0 := hw.c0 k hlt
      have c1 := hw.c1 k hlt
      obtain ⟨x, hx⟩ : ∃ x, x = d[k] := ⟨_, rfl⟩
      rw [← hx] at c0 c1
      have HX := Lib.hid hx
      clear hx
      obtain ⟨x1, x2⟩ := x
      simp only at c0 c1
      have no : ¬ (0 ≤ x1 ∧ x1 ≤ x2 ∧ x2 ≤ n) → ¬ Divides d n := fun hn hd => hn (by have := hd.1 d[k] (List.getElem_mem _); rw [← HX.out] at this; exact this)
      have NO := Lib.hid no
      have hb3 : w.grownBy (wr.alloc (.cells #[.int .i64 x1, .int .i64 x2] 60)) none := hb.trans (World.grownBy_alloc wr _ none)
      clear no
      by_cases h1 : x1 < 0
      · clear hw h hb
        go_wp2
        go_ret
        exact ⟨hb3.but _, congrArg Ending.returned (dividesB_no (NO.out (by omega)))⟩
      · by_cases h2 : x2 < x1
        · clear hw h hb
          go_wp2
          go_ret
          exact ⟨hb3.but _, congrArg Ending.returned (dividesB_no (NO.out (by omega)))⟩
        · by_cases h3 : x2 > n
          · clear hw h hb
            go_wp2
            go_ret
            exact ⟨hb3.but _, congrArg Ending.returned (dividesB_no (NO.out (by omega)))⟩
          · clear hw h hb NO
            go_wp2
            go_roundw
            case rel => exact ⟨k + 1, by omega, by go_num, Lib.hid fun j hj hd => by
              by_cases hjk : j = k
              · subst hjk; rw [← HX.out]; exact ⟨by show 0 ≤ x1; omega, by show x1 ≤ x2; omega, by show x2 ≤ n; omega⟩
              · exact HI.out j (by omega) hd, hb3⟩
            case measure => simp [intOf]; omega
    · obtain rfl : k = d.length := by omega
      have hall : ∀ r ∈ d, 0 ≤ r.1 ∧ r.1 ≤ r.2 ∧ r.2 ≤ n := fun r hr => by
        obtain ⟨j, hj, rfl⟩ := List.getElem_of_mem hr
        exact HI.out j hj hj
      have HA := Lib.hid hall
      have hfl : (d.filter fun x => !emp x).length ≤ d.length := List.length_filter_le _ _
      clear hall HI h
      go_wp2_with fail
      refine (delete_any wr g d p cap hp hw hcap (by omega)).mono ?_
      rintro e w1 ⟨hb1, rfl, hw1⟩
      have hb2 : w.grownBy w1 (some g) := (hb.but _).trans hb1
      have hp2 : 0 < (d.filter fun x => !emp x).length → p = some ⟨g, 0, none⟩ := fun h0 => hp (by omega)
      clear hb hb1 hw hp
      obtain ⟨f, hf⟩ : ∃ f, f = d.filter (fun x => !emp x) := ⟨_, rfl⟩
      rw [← hf] at hw1 hp2 hfl ⊢
      have HF := Lib.hid hf
      clear hf
      go_wp2_with fail
      refine (sort_any w1 g f p cap hp2 hw1 (by omega) (by omega)).mono ?_
      rintro e w2 ⟨rfl, hb3, d', hperm, hsort, hw2⟩
      have hb4 := hb2.trans hb3
      have hlen : f.length = d'.length := hperm.length_eq.symm
      have hiff := divides_iff HA.out (HF.out ▸ hperm) hsort
      have HD := Lib.hid hiff
      rw [hlen] at hp2 ⊢
      clear hb2 hb3 hw1 hperm hsort hiff
      go_wp2
      go_loopw [7, 39] (fun a b wr => ∃ (k : Nat) (at_ : Int), k ≤ d'.length ∧ b = .int .i64 (k : Int) ∧ a = .int .i64 at_ ∧ Hid (Chain 0 (d'.take k) at_) ∧ PairsAt wr g d' ∧ w.grownBy wr (some g)) (fun _ b _ => d'.length - (intOf b).toNat)
      case atStart => exact ⟨0, 0, Nat.zero_le _, rfl, rfl, Lib.hid rfl, hw2, hb4⟩
      case round =>
        obtain ⟨k, at_, hk, rfl, rfl, HC, hw, hb⟩ := hrel
        by_cases hlt : k < d'.length
        · obtain rfl := hp2 (by omega)
          have c0 := hw.c0 k hlt
          have c1 := hw.c1 k hlt
          obtain ⟨x, hx⟩ : ∃ x, x = d'[k] := ⟨_, rfl⟩
          rw [← hx] at c0 c1
          have HX := Lib.hid hx
          clear hx
          obtain ⟨x1, x2⟩ := x
          simp only at c0 c1
          have ht : Hid (d'.take (k + 1) = d'.take k ++ [(x1, x2)]) := Lib.hid (by rw [List.take_succ_eq_append_getElem hlt, HX.out])
          have hw3 := hw.grown (World.grownBy_alloc wr (.cells #[.int .i64 x1, .int .i64 x2] 60) none)
          have hb3 : w.grownBy (wr.alloc (.cells #[.int .i64 x1, .int .i64 x2] 60)) (some g) := hb.trans (World.grownBy_alloc wr _ _)
          clear hw hb
          by_cases he : at_ = x1
          · subst he
            go_wp2
            go_roundw
            case rel => exact ⟨k + 1, x2, by omega, by go_num, rfl, Lib.hid (by rw [ht.out]; exact chain_snoc _ _ _ (at_, x2) HC.out rfl), hw3, hb3⟩
            case measure => simp [intOf]; omega
          · go_wp2
            go_ret
            refine ⟨hb3, congrArg Ending.returned (dividesB_no ?_)⟩
            rw [← HD.out]
            intro hc
            have hs : d' = d'.take k ++ (x1, x2) :: d'.drop (k + 1) := by
              have := (List.take_append_drop (k + 1) d').symm
              rw [ht.out] at this
              simpa using this
            rw [hs] at hc
            exact he (chain_app _ _ _ _ _ HC.out hc).1.symm
        · obtain rfl : k = d'.length := by omega
          have hc : Chain 0 d' at_ := by simpa using HC.out
          have HC2 := Lib.hid hc
          clear hc
          go_wp2
          go_ret
          refine ⟨hb, congrArg (fun b => Ending.returned (.bool b)) (dividesB_of ?_)⟩
          rw [← HD.out, beq_iff_eq]
          constructor
          · rintro rfl; exact HC2.out
          · exact fun h2 => chain_end HC2.out h2
end Go.Proofs.Ytgemfgfhdbkgfaa
