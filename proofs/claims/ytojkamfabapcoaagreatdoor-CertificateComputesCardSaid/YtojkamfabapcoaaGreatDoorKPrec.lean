import Derived.Test.YtojkamfabapcoaaGreatDoorKEdges
import Derived.Test.YtojkamfabapcoaaGreatDoorKFreq
import Derived.Test.YtojkamfabapcoaaGreatDoorBuild2
import Derived.Test.YtojkamfabapcoaaGreatDoorKRegion
set_option maxRecDepth 100000
set_option maxHeartbeats 8000000
set_option linter.unusedSimpArgs false
set_option linter.unusedVariables false
namespace Go.Proofs.YtojkamfabapcoaaGreatDoor
open Go.RowKit Go.Grid Go.Maps Go.Sort Go.Shelf
theorem edges_len {n:Nat} (h2:n≤8):(edgesL n).length≤15000:=by
 have h:=comp_len (sort2 (edRaw n)) (sort2 (edRaw n)).length
 have h3:(cellsRaw n).length≤5000:=by
  have:=len_csofar (n:=n) (f:=20) (a:=0) (b:=0) h2 (by omega) (by omega) (by omega)
  rwa[csofar_end] at this
 have h4:(sort2 (edRaw n)).length=(cellsRaw n).length*3:=by
  unfold sort2
  rw[List.length_mergeSort]
  unfold edRaw
  rw[edTo_len _ _ (Nat.le_refl _)]
  unfold cellsS sort3
  rw[List.length_mergeSort]
  simp[cells3]
 unfold edgesL
 omega
theorem edges_any (n:Nat) (h1:1≤n) (h2:n≤8) (w:World) (hT:HasTab w):Calls Tryz.prog 68 #[.int .i64 n] w fun e w'=>∃ b cap,e=.returned (.tuple #[.slice (some ⟨b,0,none⟩) (edgesL n).length cap,.int .i64 0])∧(edgesL n).length≤cap∧PairsAt w' b (edgesL n)∧w.heap.size≤b∧Below w.heap.size w w':=by
 go_enter Tryz.func68,Tryz.ntmps68
 go_wp2_with fail
 refine (freq_any n _).mono ?_
 rintro e w1 ⟨rfl,rfl⟩
 rw[freqB_t (show 1≤(n:Int)∧(n:Int)≤8 by omega)]
 go_wp2_with fail
 refine (build_any n h1 h2 _ hT).mono ?_
 rintro e w2 ⟨rfl,hN,hb⟩
 obtain⟨b,cap,e5,hc,hP,hgb⟩:=hN.edges
 have HK:=zN (And.intro hc (And.intro hP (And.intro hgb hb)))
 clear hN hc hP hgb hb
 go_wp2
 go_ret2
 obtain⟨hc,hP,hgb,hb⟩:=HK.out
 exact⟨b,cap,rfl,hc,hP,by omega,hb⟩
theorem pwithin_any (n lo hi:Int) (w:World):Calls Tryz.prog 96 #[.int .i64 n,.int .i64 lo,.int .i64 hi] w fun e w'=>e=.returned (.bool (decide (lo≤n) && decide (n≤hi)))∧w=w':=by
 by_cases h:lo≤n
 ·by_cases h2:n≤hi
  ·go_enter Tryz.func96,Tryz.ntmps96
   go_wp2
   go_ret
   simp[h,h2]
  ·go_enter Tryz.func96,Tryz.ntmps96
   go_wp2
   go_ret
   simp[h2]
 ·go_enter Tryz.func96,Tryz.ntmps96
  go_wp2
  go_ret
  simp;omega
theorem pwithin_yes (n lo hi:Int) (w:World) (h:lo≤n∧n≤hi):Calls Tryz.prog 96 #[.int .i64 n,.int .i64 lo,.int .i64 hi] w fun e w'=>e=.returned (.bool true)∧w=w':=by
 refine (pwithin_any n lo hi w).mono ?_
 rintro e w' ⟨rfl,rfl⟩
 simp[h.1,h.2]
theorem pwithin_no (n lo hi:Int) (w:World) (h:¬ (lo≤n∧n≤hi)):Calls Tryz.prog 96 #[.int .i64 n,.int .i64 lo,.int .i64 hi] w fun e w'=>e=.returned (.bool false)∧w=w':=by
 refine (pwithin_any n lo hi w).mono ?_
 rintro e w' ⟨rfl,rfl⟩
 refine⟨?_,rfl⟩
 have:(decide (lo≤n) && decide (n≤hi))=false:=by
  rw[Bool.and_eq_false_iff,decide_eq_false_iff_not,decide_eq_false_iff_not];omega
 rw[this]
def prv (f s a:Int):Value:=.agg #[.int .i64 f,.int .i64 s,.int .i64 a]
def PrOk (f s a:Int):Prop:=1≤f∧f≤8∧0≤s∧s≤1000000∧1≤a∧a≤1000000
instance (f s a:Int):Decidable (PrOk f s a):=by unfold PrOk;infer_instance
def prErr (f s a:Int):Int:=if PrOk f s a then 0 else 1
theorem pcheck_any (f s a:Int) (w:World):Calls Tryz.prog 55 #[prv f s a] w fun e w'=>e=.returned (.int .i64 (prErr f s a))∧Below w.heap.size w w':=by
 unfold prv
 have yes:PrOk f s a→prErr f s a=0:=fun h=>if_pos h
 have no:¬ PrOk f s a→prErr f s a=1:=fun h=>if_neg h
 by_cases h1:1≤f∧f≤8
 ·by_cases h2:0≤s∧s≤1000000
  ·by_cases h3:1≤a∧a≤1000000
   ·have HE:=zN (yes (by unfold PrOk;omega))
    clear yes no
    go_enter Tryz.func55,Tryz.ntmps55
    go_wp2_with (go_at_call 96;refine (pwithin_yes _ _ _ _ (by omega)).mono ?_;rintro e w' ⟨rfl,rfl⟩)
    go_ret
    rw[HE.out];exact⟨rfl,(zBr _ _).alloc (Nat.le_refl _) _⟩
   ·have HE:=zN (no (by unfold PrOk;omega))
    clear yes no
    go_enter Tryz.func55,Tryz.ntmps55
    go_wp2_with (go_at_call 96;first|(refine (pwithin_yes _ _ _ _ (by omega)).mono ?_;rintro e w' ⟨rfl,rfl⟩)|(refine (pwithin_no _ _ _ _ (by omega)).mono ?_;rintro e w' ⟨rfl,rfl⟩))
    go_ret
    rw[HE.out];exact⟨rfl,(zBr _ _).alloc (Nat.le_refl _) _⟩
  ·have HE:=zN (no (by unfold PrOk;omega))
   clear yes no
   go_enter Tryz.func55,Tryz.ntmps55
   go_wp2_with (go_at_call 96;first|(refine (pwithin_yes _ _ _ _ (by omega)).mono ?_;rintro e w' ⟨rfl,rfl⟩)|(refine (pwithin_no _ _ _ _ (by omega)).mono ?_;rintro e w' ⟨rfl,rfl⟩))
   go_ret
   rw[HE.out];exact⟨rfl,(zBr _ _).alloc (Nat.le_refl _) _⟩
 ·have HE:=zN (no (by unfold PrOk;omega))
  clear yes no
  go_enter Tryz.func55,Tryz.ntmps55
  go_wp2_with (go_at_call 96;first|(refine (pwithin_yes _ _ _ _ (by omega)).mono ?_;rintro e w' ⟨rfl,rfl⟩)|(refine (pwithin_no _ _ _ _ (by omega)).mono ?_;rintro e w' ⟨rfl,rfl⟩))
  go_ret
  rw[HE.out];exact⟨rfl,(zBr _ _).alloc (Nat.le_refl _) _⟩
def Small (zs:List Int):Prop:=∀ x∈zs,-1048576≤x∧x≤1048576
instance (zs:List Int):Decidable (Small zs):=by unfold Small;infer_instance
def VecOk (f s a:Int) (zs:List Int):Prop:=PrOk f s a∧(zs.length:Int)=10*f*f+2∧Small zs
instance (f s a:Int) (zs:List Int):Decidable (VecOk f s a zs):=by unfold VecOk;infer_instance
def vecErr (f s a:Int) (zs:List Int):Int:=if VecOk f s a zs then 0 else 1
theorem vector_any (f s a:Int) (p:Option Addr) (zs:List Int) (cap:Nat) (w:World) (hV:VecAt w p zs) (hl:zs.length≤1000000000) :
  Calls Tryz.prog 67 #[prv f s a,.slice p zs.length cap] w fun e w'=>e=.returned (.int .i64 (vecErr f s a zs))∧Below w.heap.size w w':=by
 have hpv:Hid (prv f s a=.agg #[.int .i64 f,.int .i64 s,.int .i64 a]):=zN rfl
 have yes:VecOk f s a zs→vecErr f s a zs=0:=fun h=>if_pos h
 have no:¬ VecOk f s a zs→vecErr f s a zs=1:=fun h=>if_neg h
 rw[hpv.out]
 by_cases h1:PrOk f s a
 ·have he:prErr f s a=0:=if_pos h1
  by_cases h2:(zs.length:Int)=10*f*f+2
  ·have hc:countI f=(zs.length:Int):=by unfold countI;rw[if_pos ⟨h1.1,h1.2.1⟩,h2]
   have HY:Hid ((Small zs→vecErr f s a zs=0)∧(¬ Small zs→vecErr f s a zs=1)):=zN ⟨fun h=>yes ⟨h1,h2,h⟩,fun h=>no fun hh=>h hh.2.2⟩
   have HP:=zN h1
   clear yes no h1 h2
   go_enter Tryz.func67,Tryz.ntmps67
   go_wp2_with fail
   refine (pcheck_any f s a _).mono ?_
   rintro e w1 ⟨rfl,hb1⟩
   rw[he]
   have c0:w1.cell? ⟨w.heap.size,0,none⟩=some (.int .i64 f):=zP hb1 (by simp[zO,zJ,zQ])
   have hB:Below w.heap.size w w1:=Below.trans (by repeat (first|(with_reducible first|assumption|exact zBr _ _|refine zBs ?_ (by first|omega|(simp<;>omega)) _|refine zBa ?_ (by first|omega|(simp<;>omega)) _|apply zBd)|assumption)) (hb1.mono (by simp))
   clear hb1
   have hV1:=hV.below hB
   go_wp2_with fail
   refine (count_any f _).mono ?_
   rintro e w2 ⟨rfl,rfl⟩
   rw[hc]
   go_wp2
   go_loopw [21] (fun i wr=>∃ k:Nat,k≤zs.length∧i=.int .i64 k∧Hid (∀ j (h:j < zs.length),j < k→-1048576≤zs[j]∧zs[j]≤1048576)∧wr=w1) (fun i _=>zs.length-(intOf i).toNat)
   case atStart=>exact⟨0,by omega,rfl,zN fun j _ hj=>by omega,rfl⟩
   case round=>
    obtain⟨k,hk,rfl,HK,rfl⟩:=hrel
    by_cases hlt:k < zs.length
    ·obtain⟨b,o,rfl,hbl,hcell⟩:=hV1.cell (by omega)
     have ck:=hcell k hlt
     obtain⟨x,hx⟩:∃ x,x=zs[k]:=⟨_,rfl⟩
     rw[←hx] at ck
     have HX:=zN hx
     clear hx hcell
     by_cases hr:-1048576≤x∧x≤1048576
     ·go_wp2_with (go_at_call 96;refine (pwithin_yes _ _ _ _ hr).mono ?_;rintro e w' ⟨rfl,rfl⟩)
      go_roundw
      case rel=>exact⟨k+1,by omega,by go_num,zN fun j hj hjk=>by
       by_cases h:j=k
       ·subst h;rw[←HX.out];exact hr
       ·exact HK.out j hj (by omega),(by first|rfl|trivial)⟩
      case measure=>simp[intOf];omega
     ·have HN:Hid (vecErr f s a zs=1):=zN (HY.out.2 fun hs=>hr (by rw[HX.out];exact hs _ (List.getElem_mem _)))
      go_wp2_with (go_at_call 96;refine (pwithin_no _ _ _ _ hr).mono ?_;rintro e w' ⟨rfl,rfl⟩)
      go_ret
      rw[HN.out];exact⟨rfl,hB⟩
    ·obtain rfl:k=zs.length:=by omega
     have HN:Hid (vecErr f s a zs=0):=zN (HY.out.1 fun x hx=>by
      obtain⟨j,hj,rfl⟩:=List.getElem_of_mem hx
      exact HK.out j hj hj)
     go_wp2
     go_ret
     rw[HN.out];exact⟨rfl,hB⟩
  ·have hc:¬ (zs.length:Int)=countI f:=by unfold countI;rw[if_pos ⟨h1.1,h1.2.1⟩];exact h2
   have HN:Hid (vecErr f s a zs=1):=zN (no fun h=>h2 h.2.1)
   clear yes no h2
   go_enter Tryz.func67,Tryz.ntmps67
   go_wp2_with fail
   refine (pcheck_any f s a _).mono ?_
   rintro e w1 ⟨rfl,hb1⟩
   rw[he]
   have c0:w1.cell? ⟨w.heap.size,0,none⟩=some (.int .i64 f):=zP hb1 (by simp[zO,zJ,zQ])
   have hB:Below w.heap.size w w1:=Below.trans (by repeat (first|(with_reducible first|assumption|exact zBr _ _|refine zBs ?_ (by first|omega|(simp<;>omega)) _|refine zBa ?_ (by first|omega|(simp<;>omega)) _|apply zBd)|assumption)) (hb1.mono (by simp))
   clear hb1
   go_wp2_with fail
   refine (count_any f _).mono ?_
   rintro e w2 ⟨rfl,rfl⟩
   go_wp2
   go_ret
   rw[HN.out];exact⟨rfl,hB⟩
 ·have he:prErr f s a=1:=if_neg h1
  have HN:Hid (vecErr f s a zs=1):=zN (no fun h=>h1 h.1)
  clear yes no
  go_enter Tryz.func67,Tryz.ntmps67
  go_wp2_with fail
  refine (pcheck_any f s a _).mono ?_
  rintro e w1 ⟨rfl,hb1⟩
  rw[he]
  have hB:Below w.heap.size w w1:=Below.trans (by repeat (first|(with_reducible first|assumption|exact zBr _ _|refine zBs ?_ (by first|omega|(simp<;>omega)) _|refine zBa ?_ (by first|omega|(simp<;>omega)) _|apply zBd)|assumption)) (hb1.mono (by simp))
  clear hb1
  go_wp2
  go_ret
  rw[HN.out];exact⟨rfl,hB⟩
end Go.Proofs.YtojkamfabapcoaaGreatDoor
