import Derived.Test.YtednaajanciabaaGreatDoorMin
import Derived.Test.YtednaajanciabaaGreatDoorKFreq
import Derived.Test.YtednaajanciabaaGreatDoorKEdges
set_option maxRecDepth 100000
set_option maxHeartbeats 8000000
set_option linter.unusedSimpArgs false
set_option linter.unusedVariables false
namespace Go.Proofs.YtednaajanciabaaGreatDoor
open Go.RowKit Go.Sort Go.Shelf Go.Grid
def IsLoc (n:Nat) (p:Pl) (S:List (Nat × Nat)):Prop:=S.Perm (locRaw n p)∧Asc S
theorem IsLoc.unique {n:Nat} {p:Pl} {S T:List (Nat × Nat)} (h1:IsLoc n p S) (h2:IsLoc n p T):S=T:=asc_unique h1.2 h2.2 (h1.1.trans h2.1.symm)
def idxErr (n:Nat) (p:Pl):Int:=if (ix (nodesL n) (normal p)).isSome then 0 else 9
theorem nearest_any (g n base:Nat) (p:Pl) (w:World) (hT:HasTab w) (hN:NetAt w g n base (nodesL n)) (hp:p.Ok) (h1:1≤n) (h8:n≤8) :
  Calls Tryz.prog 63 #[.pointer (some ⟨g,0,none⟩),pv p] w fun e w'=>∃ S:List (Nat × Nat),IsLoc n p S∧e=.returned (.int .i64 ((best S).1:Int))∧Below w.heap.size w w':=by
 have HP:=zN hp
 have hn840:=hh_mul h1 h8
 have hpv:Hid (pv p=.agg #[.int .i64 p.f,.int .i64 p.a,.int .i64 p.b,.int .i64 p.c]):=zN rfl
 rw[hpv.out]
 go_enter Tryz.func63,Tryz.ntmps63
 go_wp2_with fail
 rw[←hpv.out]
 have hb0:Below w.heap.size w (w.alloc (.cells #[.int .i64 p.f,.int .i64 p.a,.int .i64 p.b,.int .i64 p.c] 41)):=(by repeat (first|(with_reducible first|assumption|exact zBr _ _|refine zBs ?_ (by first|omega|(simp<;>omega)) _|refine zBa ?_ (by first|omega|(simp<;>omega)) _|apply zBd)|assumption))
 refine (locate_any g n base p _ (hT.below hb0) (hN.below hb0) HP.out h1 h8).mono ?_
 rintro e w1 ⟨b,cap,S,rfl,hcap,hperm,hasc,hat,hb1⟩
 replace hb1:=hb0.trans (hb1.mono hb0.size)
 have hne:S≠[]:=fun h=>by
  subst h
  exact loc_ne h1 hn840 HP.out (List.perm_nil.1 hperm.symm)
 have hl0:=List.length_pos_iff.2 hne
 have hS:∀ x∈S,x.2≤1000:=fun x hx=>by
  have:=(loc_nodes h1 hn840 HP.out x (hperm.mem_iff.1 hx)).2.2;omega
 have hS3:S.length≤1000:=by
  rw[hperm.length_eq]
  unfold locRaw
  rw[List.length_map]
  refine Nat.le_trans (List.length_filter_le _ _) ?_
  unfold locAll
  dsimp only
  split
  ·simp
  ·split<;>simp
 have HF:=zN (And.intro hperm hasc)
 clear hperm hasc hb0
 go_wp2_with fail
 refine (minShares_any w1 b S cap hl0 hS hat hcap hS3).mono ?_
 rintro e w2 ⟨rfl,hb2⟩
 have HB:=zN (hb1.trans (hb2.mono hb1.size))
 clear hb1 hb2 hat hS
 generalize hm:(best S).1=m0
 have HM:=zN hm
 clear hm
 generalize (best S).2=m1
 have hfl:∀ w,(Instr.field 123 (.agg #[.int .i64 (m0:Int),.int .i64 (m1:Int)]) 0).run Tryz.prog w=.ok (.int .i64 (m0:Int)) w:=fun _=>by kernel_rfl
 go_wp2
 go_ret
 exact⟨S,HF.out,by rw[HM.out];rfl,HB.out⟩
end Go.Proofs.YtednaajanciabaaGreatDoor
