import Derived.Test.YtgemfgfhdbkgfaaRef24
set_option linter.unusedSimpArgs false
set_option linter.unusedVariables false
namespace Go.Proofs.Ytgemfgfhdbkgfaa
open Go.RowKit

/-- What both Checks answer. -/
noncomputable def checkB (l : List Pt) (nodes rows : Int) : Bool := dividesB (l.map nodeOf) nodes && dividesB (l.map rowOf) rows
theorem checkB_iff {l : List Pt} {nodes rows : Int} : checkB l nodes rows = true ↔ ((∀ x ∈ l, FitsP x nodes rows) ∧ (∀ k : Int, 0 ≤ k → k < nodes → (l.map (sideOf false)).countP (inR k) = 1) ∧ ∀ k : Int, 0 ≤ k → k < rows → (l.map (sideOf true)).countP (inR k) = 1) := by
  have e0 : l.map (sideOf false) = l.map nodeOf := rfl
  have e1 : l.map (sideOf true) = l.map rowOf := rfl
  rw [e0, e1]
  have di : ∀ d n, dividesB d n = true ↔ Divides d n := fun d n => by simp [dividesB]
  unfold checkB
  rw [Bool.and_eq_true, di, di]
  unfold Divides
  constructor
  · rintro ⟨⟨h1, h2⟩, h3, h4⟩
    refine ⟨fun x hx => ?_, h2, h4⟩
    have a := h1 (nodeOf x) (List.mem_map_of_mem hx)
    have b := h3 (rowOf x) (List.mem_map_of_mem hx)
    simp only [nodeOf, rowOf] at a b
    exact ⟨a.1, a.2.1, a.2.2, b.1, b.2.1, b.2.2⟩
  · rintro ⟨h1, h2, h3⟩
    refine ⟨⟨fun r hr => ?_, h2⟩, fun r hr => ?_, h3⟩
    · obtain ⟨x, hx, rfl⟩ := List.mem_map.1 hr
      have := h1 x hx
      exact ⟨this.1, this.2.1, this.2.2.1⟩
    · obtain ⟨x, hx, rfl⟩ := List.mem_map.1 hr
      have := h1 x hx
      exact ⟨this.2.2.2.1, this.2.2.2.2.1, this.2.2.2.2.2⟩
theorem checkB_no {l : List Pt} {nodes rows : Int} (h : ¬ checkB l nodes rows = true) : Value.bool false = Value.bool (checkB l nodes rows) := by
  rw [Bool.eq_false_iff.2 h]

set_option maxHeartbeats 1000000 in
theorem refCheck_any (w : World) (g o : Nat) (l : List Pt) (p : Option Addr) (cap : Nat) (nodes rows : Int) (hp : 0 < l.length → p = some ⟨g, o, none⟩) (h : PartsAt w g o l) (hcap : l.length ≤ cap) (h31 : l.length ≤ 1000) (hn : nodes ≤ 100000) (hr : rows ≤ 100000) :
    Calls Try.prog 18 #[.slice p l.length cap, .int .i64 nodes, .int .i64 rows] w fun e w' => Below w.heap.size w w' ∧ e = .returned (.bool (checkB l nodes rows)) := by
  go_enter Try.func18, Try.ntmps18
  go_wp2
  go_loopw [7] (fun i wr => ∃ k : Nat, k ≤ l.length ∧ i = .int .i64 (k : Int) ∧ Hid (∀ j (hj : j < k) (h : j < l.length), FitsP l[j] nodes rows) ∧ Below w.heap.size w wr) (fun i _ => l.length - (intOf i).toNat)
  case atStart => exact ⟨0, Nat.zero_le _, rfl, Lib.hid fun j hj => by omega, Below.refl _ _⟩
  case round =>
    obtain ⟨k, hk, rfl, HI, hb⟩ := hrel
    by_cases hlt : k < l.length
    · obtain rfl := hp (by omega)
      have hw := h.below hb
      have c0 := hw.c0 k hlt
      have c1 := hw.c1 k hlt
      have c2 := hw.c2 k hlt
      have c3 := hw.c3 k hlt
      obtain ⟨x, hx⟩ : ∃ x, x = l[k] := ⟨_, rfl⟩
      rw [← hx] at c0 c1 c2 c3
      have HX := Lib.hid hx
      clear hx hw h
      go_wp2_with fail
      refine (fits_any x nodes rows wr).mono ?_
      rintro e w1 ⟨rfl, hb1⟩
      have hb2 := hb.trans (hb1.mono hb.size)
      clear hb hb1
      by_cases hf : FitsP x nodes rows
      · rw [decide_eq_true hf]
        have HF := Lib.hid hf
        clear hf
        go_wp2
        go_roundw
        case rel => exact ⟨k + 1, by omega, by go_num, Lib.hid fun j hj hd => by
          by_cases hjk : j = k
          · subst hjk; rw [← HX.out]; exact HF.out
          · exact HI.out j (by omega) hd, hb2⟩
        case measure => simp [intOf]; omega
      · rw [decide_eq_false hf]
        have HF := Lib.hid hf
        clear hf
        go_wp2
        go_ret
        refine ⟨hb2, congrArg Ending.returned (checkB_no ?_)⟩
        rw [checkB_iff]
        intro hc
        have := hc.1 l[k] (List.getElem_mem _)
        rw [← HX.out] at this
        exact HF.out this
    · obtain rfl : k = l.length := by omega
      have hall : ∀ x ∈ l, FitsP x nodes rows := fun x hx => by
        obtain ⟨j, hj, rfl⟩ := List.getElem_of_mem hx
        exact HI.out j hj hj
      have HA := Lib.hid hall
      clear hall HI
      go_wp2
      go_loopw [8] (fun i wr => ∃ k : Nat, k ≤ nodes.toNat ∧ i = .int .i64 (k : Int) ∧ Hid (∀ j : Int, 0 ≤ j → j < k → (l.map (sideOf false)).countP (inR j) = 1) ∧ Below w.heap.size w wr) (fun i _ => nodes.toNat - (intOf i).toNat)
      case atStart => exact ⟨0, Nat.zero_le _, rfl, Lib.hid fun j h1 h2 => by omega, hb⟩
      case round =>
        obtain ⟨k, hk, rfl, HI, hb⟩ := hrel
        have hw := h.below hb
        by_cases hlt : (k : Int) < nodes
        · go_wp2_with fail
          refine (counts_any wr g o l p cap k false hp hw hcap h31).mono ?_
          rintro e w1 ⟨rfl, hb1⟩
          have hb2 := hb.trans (hb1.mono hb.size)
          clear hb hb1 hw
          obtain ⟨m, hm⟩ : ∃ m, m = (l.map (sideOf false)).countP (inR k) := ⟨_, rfl⟩
          rw [← hm]
          have HM := Lib.hid hm
          clear hm
          by_cases h1 : m = 1
          · subst h1
            go_wp2
            go_roundw
            case rel => exact ⟨k + 1, by omega, by go_num, Lib.hid fun j hj hd => by
              by_cases hjk : j = k
              · subst hjk; exact HM.out.symm
              · exact HI.out j hj (by omega), hb2⟩
            case measure => simp [intOf]; omega
          · have hm1 : ((m : Int) == 1) = false := beq_eq_false_iff_ne.2 (by omega)
            go_wp2
            go_ret
            refine ⟨hb2, congrArg Ending.returned (checkB_no ?_)⟩
            rw [checkB_iff]
            intro hc
            exact h1 (by rw [HM.out]; exact hc.2.1 k (by omega) hlt)
        · have hN : ∀ j : Int, 0 ≤ j → j < nodes → (l.map (sideOf false)).countP (inR j) = 1 := fun j h1 h2 => HI.out j h1 (by omega)
          have HN := Lib.hid hN
          clear hN HI
          go_wp2
          go_loopw [9] (fun i wr => ∃ k : Nat, k ≤ rows.toNat ∧ i = .int .i64 (k : Int) ∧ Hid (∀ j : Int, 0 ≤ j → j < k → (l.map (sideOf true)).countP (inR j) = 1) ∧ Below w.heap.size w wr) (fun i _ => rows.toNat - (intOf i).toNat)
          case atStart => exact ⟨0, Nat.zero_le _, rfl, Lib.hid fun j h1 h2 => by omega, hb⟩
          case round =>
            obtain ⟨k', hk', rfl, HI, hb⟩ := hrel
            have hw := h.below hb
            by_cases hlt' : (k' : Int) < rows
            · go_wp2_with fail
              refine (counts_any wr g o l p cap k' true hp hw hcap h31).mono ?_
              rintro e w1 ⟨rfl, hb1⟩
              have hb2 := hb.trans (hb1.mono hb.size)
              clear hb hb1 hw
              obtain ⟨m, hm⟩ : ∃ m, m = (l.map (sideOf true)).countP (inR k') := ⟨_, rfl⟩
              rw [← hm]
              have HM := Lib.hid hm
              clear hm
              by_cases h1 : m = 1
              · subst h1
                go_wp2
                go_roundw
                case rel => exact ⟨k' + 1, by omega, by go_num, Lib.hid fun j hj hd => by
                  by_cases hjk : j = k'
                  · subst hjk; exact HM.out.symm
                  · exact HI.out j hj (by omega), hb2⟩
                case measure => simp [intOf]; omega
              · have hm1 : ((m : Int) == 1) = false := beq_eq_false_iff_ne.2 (by omega)
                go_wp2
                go_ret
                refine ⟨hb2, congrArg Ending.returned (checkB_no ?_)⟩
                rw [checkB_iff]
                intro hc
                exact h1 (by rw [HM.out]; exact hc.2.2 k' (by omega) hlt')
            · have hR : ∀ j : Int, 0 ≤ j → j < rows → (l.map (sideOf true)).countP (inR j) = 1 := fun j h1 h2 => HI.out j h1 (by omega)
              have HR := Lib.hid hR
              clear hR HI
              go_wp2
              go_ret
              refine ⟨hb, ?_⟩
              rw [checkB_iff.2 ⟨HA.out, HN.out, HR.out⟩]
              rfl
end Go.Proofs.Ytgemfgfhdbkgfaa
