import Derived.Test.YtednaajanciabaaGreatDoorKRefA
import Derived.Test.YtednaajanciabaaGreatDoorKFreq
import Derived.Test.YtednaajanciabaaGreatDoorKRegion
import Derived.ArgAppend
import Derived.Test.YtednaajanciabaaGreatDoorSortS
import Derived.Test.YtednaajanciabaaGreatDoorLocate
import Derived.Test.YtednaajanciabaaGreatDoorGridL
set_option maxRecDepth 100000
set_option maxHeartbeats 8000000
set_option linter.unusedSimpArgs false
set_option linter.unusedVariables false
namespace Go.Proofs.YtednaajanciabaaGreatDoor
open Go.RowKit Go.Grid
theorem rcount_any (n:Int) (w:World):Calls Tryz.prog 106 #[.int .i64 n] w fun e w'=>e=.returned (.int .i64 (countI n))∧w=w':=by
 by_cases h:1≤n
 ·by_cases h8:n≤8
  ·have HC:Hid (countI n=10*n*n+2):=zN (by unfold countI;rw[if_pos ⟨h,h8⟩])
   have h1:0≤10*n*n:=Int.mul_nonneg (by omega) (by omega)
   have h2:10*n*n≤640:=by
    have:=Int.mul_le_mul (show 10*n≤80 by omega) h8 (by omega) (by omega)
    omega
   go_enter Tryz.func106,Tryz.ntmps106
   go_wp2
   go_ret
   rw[HC.out];exact⟨rfl,rfl⟩
  ·have HC:Hid (countI n=0):=zN (by unfold countI;rw[if_neg (by omega)])
   go_enter Tryz.func106,Tryz.ntmps106
   go_wp2
   go_ret
   rw[HC.out];exact⟨rfl,rfl⟩
 ·have HC:Hid (countI n=0):=zN (by unfold countI;rw[if_neg (by omega)])
  go_enter Tryz.func106,Tryz.ntmps106
  go_wp2
  go_ret
  rw[HC.out];exact⟨rfl,rfl⟩
theorem countI_nat {n:Nat} (h1:1≤n) (h8:n≤8):countI n=10*n*n+2∧((countI (n:Int)) == 0)=false∧12≤countI (n:Int)∧countI (n:Int)≤642:=by
 have h:countI n=10*n*n+2:=by unfold countI;rw[if_pos (by omega)]
 have h64:=Nat.mul_le_mul (show n≤8 by omega) (show n≤8 by omega)
 have h1':=Nat.mul_le_mul (show 1≤n by omega) (show 1≤n by omega)
 have e:(10:Int)*n*n=((10*(n*n):Nat):Int):=by rw[Int.mul_assoc];norm_cast
 refine⟨h,?_,?_,?_⟩
 ·rw[h,e,beq_eq_false_iff_ne];omega
 ·rw[h,e];omega
 ·rw[h,e];omega
def AtMul (i:Value) (h k:Nat):Prop:=∃ x:Nat,x=k*h∧i=.int .i64 x
theorem AtMul.next {h k y:Nat} (hy:y=k*h):AtMul (.int .i64 ((y:Int)+(h:Int))) h (k+1):=⟨y+h,by rw[Nat.succ_mul,hy],by rw[Int.natCast_add]⟩
theorem AtMul.zero (h:Nat):AtMul (.int .i64 0) h 0:=⟨0,by simp,rfl⟩
theorem rnodes_any (n:Nat) (h1:1≤n) (h8:n≤8) (w:World):Calls Tryz.prog 107 #[.int .i64 n] w fun e w'=>∃ v,e=.returned (.tuple #[v,.int .i64 0])∧PlRow w' w.heap.size v (nodesL n)∧Below w.heap.size w w':=by
 have hn:=hh_mul h1 h8
 have hq:(840:Int).tdiv n=((hh n:Nat):Int):=by
  rw[Int.tdiv_eq_ediv_of_nonneg (by omega)];rfl
 have hn0:((n:Int) == 0)=false:=by rw[beq_eq_false_iff_ne];omega
 obtain⟨c,hcE,hc0⟩:∃ c:Int,countI n=c∧(c == 0)=false:=⟨_,rfl,(countI_nat h1 h8).2.1⟩
 have HCE:=zN hcE
 clear hcE
 have hhp:1≤hh n:=hh_pos h1 (by omega)
 have hh1:hh n≤840:=Nat.div_le_self _ _
 obtain⟨h,hhe⟩:∃ h,h=hh n:=⟨_,rfl⟩
 rw[←hhe] at hq hhp hh1
 have HN:Hid (n*h=840):=zN (by rw[hhe];exact hn)
 have HE:=zN hhe
 clear hhe hn
 go_enter Tryz.func107,Tryz.ntmps107
 go_wp2_with fail
 refine (rcount_any n _).mono ?_
 rintro e w1 ⟨rfl,rfl⟩
 rw[HCE.out]
 go_wp2
 clear hq hn0 hc0
 go_loopw [5,6] (fun v i wr=>∃ f:Nat,f≤20∧i=.int .i64 f∧PlRow wr w.heap.size v (sofar n f 0 0)∧Below w.heap.size w wr) (fun _ i _=>20-(intOf i).toNat)
 case atStart=>exact⟨0,by omega,rfl,by rw[sofar_start];exact PlRow.nil _ _,(by repeat (first|(with_reducible first|assumption|exact zBr _ _|refine zBs ?_ (by first|omega|(simp<;>omega)) _|refine zBa ?_ (by first|omega|(simp<;>omega)) _|apply zBd)|assumption))⟩
 case round=>
  obtain⟨f,hf,rfl,hrow,hB⟩:=hrel
  by_cases hltf:f < 20
  ·have hdf:decide ((f:Int) < 20)=true:=zDt (by omega)
   go_wp2
   go_loopw [5,7] (fun v i wr=>∃ a:Nat,a≤n+1∧AtMul i h a∧PlRow wr w.heap.size v (sofar n f a 0)∧Below w.heap.size w wr) (fun _ i _=>1681-(intOf i).toNat)
   case atStart=>exact⟨0,by omega,AtMul.zero h,hrow,hB⟩
   case round=>
    clear hrow hB
    obtain⟨a,ha,⟨x,HX0,rfl⟩,hrow,hB⟩:=hrel
    have HX:=zN HX0
    clear HX0
    by_cases hlta:a≤n
    ·have hx1:x≤840:=by rw[HX.out,←HN.out];exact Nat.mul_le_mul_right _ hlta
     have hdx:decide ((x:Int)≤840)=true:=zDt (by omega)
     go_wp2
     go_loopw [5,8] (fun v i wr=>∃ b:Nat,b≤n+1-a∧AtMul i h b∧PlRow wr w.heap.size v (sofar n f a b)∧Below w.heap.size w wr) (fun _ i _=>1681-(intOf i).toNat)
     case atStart=>exact⟨0,by omega,AtMul.zero h,hrow,hB⟩
     case round=>
      clear hrow hB
      obtain⟨b,hb,⟨y,HY0,rfl⟩,hrow,hB⟩:=hrel
      have HY:=zN HY0
      clear HY0
      by_cases hltb:a+b≤n
      ·obtain⟨z,HZ⟩:∃ z,Hid (z=(n-a-b)*h):=⟨_,zN rfl⟩
       have HLA:Hid (lat n f a b=⟨f,x,y,z⟩):=zN (by rw[HX.out,HY.out,HZ.out,HE.out];rfl)
       have HOk:Hid (Pl.Ok ⟨f,x,y,z⟩):=zN (HLA.out ▸ lat_ok (by rw[←HE.out];exact HN.out) hltf hltb)
       have hxyz:x+y+z=840:=HOk.out.s
       have ez:(840:Int)-(x:Int)-(y:Int)=z:=by omega
       have hxy:(x:Int)+(y:Int)≤840:=by omega
       have HYS:AtMul (.int .i64 ((y:Int)+(h:Int))) h (b+1):=AtMul.next HY.out
       have hlen:(sofar n f a b).length≤2000:=len_sofar h8 hltf (by omega) (by omega)
       have HNEXT:∀ v wr',PlRow wr' w.heap.size v (if isN (lat n f a b)=true then sofar n f a b ++ [lat n f a b] else sofar n f a b)→PlRow wr' w.heap.size v (sofar n f a (b+1)):=fun v wr' hr=>by
        split at hr
        ·rw[sofar_yes (by assumption)];exact hr
        ·rename_i hne;rw[sofar_no (by simpa using hne)];exact hr
       rw[HLA.out] at HNEXT
       have HNX:=zN HNEXT
       clear HNEXT
       obtain⟨p,cap,rfl,hcap⟩:=own_slice hrow
       generalize hLs:sofar n f a b=L at *
       have HO:=zN hrow
       clear hrow hLs
       have hszB:=hB.size
       by_cases hall:0 < x∧0 < y∧0 < z
       ·obtain⟨hx0,hy0,hz0⟩:=hall
        have HNm:Hid (isN ⟨f,x,y,z⟩=true):=zN (by unfold isN;exact zDt (normal_inner HOk.out hx0 hy0 hz0))
        have hown:=World.ownsRow.alloc (World.ownsRow.alloc HO.out (.cells #[.int .i64 f,.int .i64 x,.int .i64 y,.int .i64 z] 41)) (.cells #[.int .i64 f,.int .i64 x,.int .i64 y,.int .i64 z] 41)
        have hb5:=(hB.alloc hszB (.cells #[.int .i64 f,.int .i64 x,.int .i64 y,.int .i64 z] 41)).alloc (by simp;omega) (.cells #[.int .i64 f,.int .i64 x,.int .i64 y,.int .i64 z] 41)
        go_wp2_with (refine RX.wpl_apq (by rfl) elPl _ _ (by rfl) w.heap.size _ _ _ hown (by rfl) (wr.heap.size+1) _ 1 (by rfl) (by rw[←show (wr.alloc (.cells #[.int .i64 f,.int .i64 x,.int .i64 y,.int .i64 z] 41)).heap.size=wr.heap.size+1 by simp];exact heap_alloc_new _ _) (by rfl) (by simp[Value.oneCell']) (by omega) (by omega) (by simp;omega) ?_;intro v' w5 hown5 hb6 hg6 hat6)
        have HR:=zN (HNX.out _ _ (by rw[if_pos HNm.out];exact PlRow.snoc hown5))
        have HB6:=zN (hb5.trans hb6)
        clear hown5 hb6 hg6 hat6 hb5 hown
        go_roundw
        case rel=>exact⟨b+1,by omega,HYS,HR.out,HB6.out⟩
        case measure=>simp[intOf];omega
       ·rcases (show ¬ 0 < x∨(0 < x∧¬ 0 < y)∨(0 < x∧0 < y∧¬ 0 < z) by omega) with hg|⟨hg,hg2⟩|⟨hg,hg2,hg3⟩
        ·clear hall
         go_wp2_with fail
         refine (risnormal_any ⟨f,x,y,z⟩ HOk.out _).mono ?_
         rintro e w3 ⟨rfl,hb3⟩
         have p0:w3.cell? ⟨wr.heap.size,0,none⟩=some (.int .i64 f):=zP hb3 (by simp[zO,zJ,zQ])
         have p1:w3.cell? ⟨wr.heap.size,1,none⟩=some (.int .i64 x):=zP hb3 (by simp[zO,zJ,zQ])
         have p2:w3.cell? ⟨wr.heap.size,2,none⟩=some (.int .i64 y):=zP hb3 (by simp[zO,zJ,zQ])
         have p3:w3.cell? ⟨wr.heap.size,3,none⟩=some (.int .i64 z):=zP hb3 (by simp[zO,zJ,zQ])
         have hb4:Below w.heap.size w w3:=Below.trans (hB.alloc hszB (.cells #[.int .i64 f,.int .i64 x,.int .i64 y,.int .i64 z] 41)) (hb3.mono (by simp;omega))
         have HO3:=zN (PlRow.kept (World.ownsRow.alloc HO.out (.cells #[.int .i64 f,.int .i64 x,.int .i64 y,.int .i64 z] 41)) hb3)
         have hs4:=hb4.size
         clear hb3 HO
         cases hN:isN ⟨f,x,y,z⟩
         ·have HNm:=zN hN
          clear hN
          go_wp2
          have HR:=zN (HNX.out _ _ (by rw[if_neg (by rw[HNm.out];exact Bool.false_ne_true)];exact HO3.out))
          have HB6:=zN hb4
          go_roundw
          case rel=>first|exact⟨b+1,by omega,HYS,HR.out,HB6.out⟩|((repeat apply zEx);exact⟨⟨b+1,by omega,HYS,HR.out,HB6.out⟩,rfl⟩)
          case measure=>simp[intOf];omega
         ·have HNm:=zN hN
          clear hN
          have hown:=World.ownsRow.alloc HO3.out (.cells #[.int .i64 f,.int .i64 x,.int .i64 y,.int .i64 z] 41)
          have hb5:=hb4.alloc hs4 (.cells #[.int .i64 f,.int .i64 x,.int .i64 y,.int .i64 z] 41)
          go_wp2_with (refine RX.wpl_apq (by rfl) elPl _ _ (by rfl) w.heap.size _ _ _ hown (by rfl) (w3.heap.size) _ 1 (by rfl) (by exact heap_alloc_new _ _) (by rfl) (by simp[Value.oneCell']) (by omega) (by omega) (by simp;omega) ?_;intro v' w5 hown5 hb6 hg6 hat6)
          have HR:=zN (HNX.out _ _ (by rw[if_pos HNm.out];exact PlRow.snoc hown5))
          have HB6:=zN (hb5.trans hb6)
          clear hown5 hb6 hg6 hat6 hb5 hown
          go_roundw
          case rel=>exact⟨b+1,by omega,HYS,HR.out,HB6.out⟩
          case measure=>simp[intOf];omega
        ·clear hall
         go_wp2_with fail
         refine (risnormal_any ⟨f,x,y,z⟩ HOk.out _).mono ?_
         rintro e w3 ⟨rfl,hb3⟩
         have p0:w3.cell? ⟨wr.heap.size,0,none⟩=some (.int .i64 f):=zP hb3 (by simp[zO,zJ,zQ])
         have p1:w3.cell? ⟨wr.heap.size,1,none⟩=some (.int .i64 x):=zP hb3 (by simp[zO,zJ,zQ])
         have p2:w3.cell? ⟨wr.heap.size,2,none⟩=some (.int .i64 y):=zP hb3 (by simp[zO,zJ,zQ])
         have p3:w3.cell? ⟨wr.heap.size,3,none⟩=some (.int .i64 z):=zP hb3 (by simp[zO,zJ,zQ])
         have hb4:Below w.heap.size w w3:=Below.trans (hB.alloc hszB (.cells #[.int .i64 f,.int .i64 x,.int .i64 y,.int .i64 z] 41)) (hb3.mono (by simp;omega))
         have HO3:=zN (PlRow.kept (World.ownsRow.alloc HO.out (.cells #[.int .i64 f,.int .i64 x,.int .i64 y,.int .i64 z] 41)) hb3)
         have hs4:=hb4.size
         clear hb3 HO
         cases hN:isN ⟨f,x,y,z⟩
         ·have HNm:=zN hN
          clear hN
          go_wp2
          have HR:=zN (HNX.out _ _ (by rw[if_neg (by rw[HNm.out];exact Bool.false_ne_true)];exact HO3.out))
          have HB6:=zN hb4
          go_roundw
          case rel=>first|exact⟨b+1,by omega,HYS,HR.out,HB6.out⟩|((repeat apply zEx);exact⟨⟨b+1,by omega,HYS,HR.out,HB6.out⟩,rfl⟩)
          case measure=>simp[intOf];omega
         ·have HNm:=zN hN
          clear hN
          have hown:=World.ownsRow.alloc HO3.out (.cells #[.int .i64 f,.int .i64 x,.int .i64 y,.int .i64 z] 41)
          have hb5:=hb4.alloc hs4 (.cells #[.int .i64 f,.int .i64 x,.int .i64 y,.int .i64 z] 41)
          go_wp2_with (refine RX.wpl_apq (by rfl) elPl _ _ (by rfl) w.heap.size _ _ _ hown (by rfl) (w3.heap.size) _ 1 (by rfl) (by exact heap_alloc_new _ _) (by rfl) (by simp[Value.oneCell']) (by omega) (by omega) (by simp;omega) ?_;intro v' w5 hown5 hb6 hg6 hat6)
          have HR:=zN (HNX.out _ _ (by rw[if_pos HNm.out];exact PlRow.snoc hown5))
          have HB6:=zN (hb5.trans hb6)
          clear hown5 hb6 hg6 hat6 hb5 hown
          go_roundw
          case rel=>exact⟨b+1,by omega,HYS,HR.out,HB6.out⟩
          case measure=>simp[intOf];omega
        ·clear hall
         go_wp2_with fail
         refine (risnormal_any ⟨f,x,y,z⟩ HOk.out _).mono ?_
         rintro e w3 ⟨rfl,hb3⟩
         have p0:w3.cell? ⟨wr.heap.size,0,none⟩=some (.int .i64 f):=zP hb3 (by simp[zO,zJ,zQ])
         have p1:w3.cell? ⟨wr.heap.size,1,none⟩=some (.int .i64 x):=zP hb3 (by simp[zO,zJ,zQ])
         have p2:w3.cell? ⟨wr.heap.size,2,none⟩=some (.int .i64 y):=zP hb3 (by simp[zO,zJ,zQ])
         have p3:w3.cell? ⟨wr.heap.size,3,none⟩=some (.int .i64 z):=zP hb3 (by simp[zO,zJ,zQ])
         have hb4:Below w.heap.size w w3:=Below.trans (hB.alloc hszB (.cells #[.int .i64 f,.int .i64 x,.int .i64 y,.int .i64 z] 41)) (hb3.mono (by simp;omega))
         have HO3:=zN (PlRow.kept (World.ownsRow.alloc HO.out (.cells #[.int .i64 f,.int .i64 x,.int .i64 y,.int .i64 z] 41)) hb3)
         have hs4:=hb4.size
         clear hb3 HO
         cases hN:isN ⟨f,x,y,z⟩
         ·have HNm:=zN hN
          clear hN
          go_wp2
          have HR:=zN (HNX.out _ _ (by rw[if_neg (by rw[HNm.out];exact Bool.false_ne_true)];exact HO3.out))
          have HB6:=zN hb4
          go_roundw
          case rel=>first|exact⟨b+1,by omega,HYS,HR.out,HB6.out⟩|((repeat apply zEx);exact⟨⟨b+1,by omega,HYS,HR.out,HB6.out⟩,rfl⟩)
          case measure=>simp[intOf];omega
         ·have HNm:=zN hN
          clear hN
          have hown:=World.ownsRow.alloc HO3.out (.cells #[.int .i64 f,.int .i64 x,.int .i64 y,.int .i64 z] 41)
          have hb5:=hb4.alloc hs4 (.cells #[.int .i64 f,.int .i64 x,.int .i64 y,.int .i64 z] 41)
          go_wp2_with (refine RX.wpl_apq (by rfl) elPl _ _ (by rfl) w.heap.size _ _ _ hown (by rfl) (w3.heap.size) _ 1 (by rfl) (by exact heap_alloc_new _ _) (by rfl) (by simp[Value.oneCell']) (by omega) (by omega) (by simp;omega) ?_;intro v' w5 hown5 hb6 hg6 hat6)
          have HR:=zN (HNX.out _ _ (by rw[if_pos HNm.out];exact PlRow.snoc hown5))
          have HB6:=zN (hb5.trans hb6)
          clear hown5 hb6 hg6 hat6 hb5 hown
          go_roundw
          case rel=>exact⟨b+1,by omega,HYS,HR.out,HB6.out⟩
          case measure=>simp[intOf];omega
      ·obtain rfl:b=n+1-a:=by omega
       have hy1:x+y=840+h:=by
        have e1:x+y=(n+1)*h:=by rw[HX.out,HY.out,←Nat.add_mul];congr 1;omega
        rw[Nat.succ_mul,HN.out] at e1
        exact e1
       have hy2:840 < x+y:=by omega
       have hy3:x+y≤1680:=by omega
       clear hy1
       rw[sofar_row] at hrow
       have HR:=zN hrow
       have HB6:=zN hB
       have HXS:AtMul (.int .i64 ((x:Int)+(h:Int))) h (a+1):=AtMul.next HX.out
       clear hrow hB
       go_wp2
       go_roundw
       case rel=>exact⟨a+1,by omega,HXS,HR.out,HB6.out⟩
       case measure=>simp[intOf];omega
    ·obtain rfl:a=n+1:=by omega
     have hx0:x=840+h:=by
      have e1:=HX.out
      rw[Nat.succ_mul,HN.out] at e1
      exact e1
     have hx1:840 < x:=by omega
     have hx2:x≤1680:=by omega
     clear hx0
     rw[sofar_face] at hrow
     have HR:=zN hrow
     have HB6:=zN hB
     clear hrow hB
     go_wp2
     go_roundw
     case rel=>exact⟨f+1,by omega,by go_num,HR.out,HB6.out⟩
     case measure=>simp[intOf];omega
  ·obtain rfl:f=20:=by omega
   rw[sofar_end] at hrow
   have HR:=zN hrow
   have HB6:=zN hB
   clear hrow hB
   go_wp2
   go_ret2
   exact⟨_,rfl,HR.out,HB6.out⟩
theorem rless_any (p q:Pl) (w:World):Calls Tryz.prog 161 #[pv p,pv q] w fun e w'=>e=.returned (.bool (decide (Before p q)))∧Below w.heap.size w w':=by
 by_cases h1:p.f=q.f
 ·have b1:((p.f:Int) == (q.f:Int))=true:=by rw[beq_iff_eq];omega
  have c1:((p.f:Int) != (q.f:Int))=false:=by rw[bne,b1];rfl
  by_cases h2:p.a=q.a
  ·have b2:((p.a:Int) == (q.a:Int))=true:=by rw[beq_iff_eq];omega
   have c2:((p.a:Int) != (q.a:Int))=false:=by rw[bne,b2];rfl
   have HB:Hid (decide (Before p q)=decide (p.b < q.b)):=zN (by rw[decide_eq_decide];unfold Before;omega)
   clear h1 h2
   unfold pv
   go_enter Tryz.func161,Tryz.ntmps161
   go_wp2
   go_ret
   rw[HB.out]
   exact⟨rfl,(by repeat (first|(with_reducible first|assumption|exact zBr _ _|refine zBs ?_ (by first|omega|(simp<;>omega)) _|refine zBa ?_ (by first|omega|(simp<;>omega)) _|apply zBd)|assumption))⟩
  ·have b2:((p.a:Int) == (q.a:Int))=false:=by rw[beq_eq_false_iff_ne];omega
   have c2:((p.a:Int) != (q.a:Int))=true:=by rw[bne,b2];rfl
   have HB:Hid (decide (Before p q)=decide (p.a < q.a)):=zN (by rw[decide_eq_decide];unfold Before;omega)
   clear h1 h2
   unfold pv
   go_enter Tryz.func161,Tryz.ntmps161
   go_wp2
   go_ret
   rw[HB.out]
   exact⟨rfl,(by repeat (first|(with_reducible first|assumption|exact zBr _ _|refine zBs ?_ (by first|omega|(simp<;>omega)) _|refine zBa ?_ (by first|omega|(simp<;>omega)) _|apply zBd)|assumption))⟩
 ·have b1:((p.f:Int) == (q.f:Int))=false:=by rw[beq_eq_false_iff_ne];omega
  have c1:((p.f:Int) != (q.f:Int))=true:=by rw[bne,b1];rfl
  have HB:Hid (decide (Before p q)=decide (p.f < q.f)):=zN (by rw[decide_eq_decide];unfold Before;omega)
  clear h1
  unfold pv
  go_enter Tryz.func161,Tryz.ntmps161
  go_wp2
  go_ret
  rw[HB.out]
  exact⟨rfl,(by repeat (first|(with_reducible first|assumption|exact zBr _ _|refine zBs ?_ (by first|omega|(simp<;>omega)) _|refine zBa ?_ (by first|omega|(simp<;>omega)) _|apply zBd)|assumption))⟩
def foundI (L:List Pl) (p:Pl):Int:=match ix L p with
 |some i=>(i:Int)
 |none=>-1
theorem rfind_any (w:World) (b cap:Nat) (L:List Pl) (p:Pl) (h0:0 < L.length) (hat:PlsAt w b L) (hs:L.Pairwise Before) (hl:L.length≤100000) (hcap:L.length≤cap) :
  Calls Tryz.prog 131 #[.slice (some ⟨b,0,none⟩) L.length cap,pv p] w fun e w'=>e=.returned (.int .i64 (foundI L p))∧Below w.heap.size w w':=by
 have hblt:b < w.heap.size:=by
  have:=zM _ _ (hat 0 h0).1;simpa using this
 have HAT:=zN hat
 have HS:=zN hs
 have HF:Hid (foundI L p=match ix L p with
  |some i=>(i:Int)
  |none=>-1):=zN rfl
 have hpv:Hid (pv p=.agg #[.int .i64 p.f,.int .i64 p.a,.int .i64 p.b,.int .i64 p.c]):=zN rfl
 rw[hpv.out]
 clear hat hs
 go_enter Tryz.func131,Tryz.ntmps131
 go_wp2
 go_loopw [5,6] (fun lo hi wr=>∃ l h:Nat,Low L p l h∧lo=.int .i64 l∧hi=.int .i64 h∧Below w.heap.size w wr∧wr.cell? ⟨w.heap.size,0,none⟩=some (.int .i64 p.f)∧wr.cell? ⟨w.heap.size,1,none⟩=some (.int .i64 p.a)∧wr.cell? ⟨w.heap.size,2,none⟩=some (.int .i64 p.b)∧wr.cell? ⟨w.heap.size,3,none⟩=some (.int .i64 p.c)) (fun lo hi _=>(intOf hi).toNat-(intOf lo).toNat)
 case atStart=>exact⟨0,L.length,Low.start L p,rfl,rfl,(by repeat (first|(with_reducible first|assumption|exact zBr _ _|refine zBs ?_ (by first|omega|(simp<;>omega)) _|refine zBa ?_ (by first|omega|(simp<;>omega)) _|apply zBd)|assumption)),(by simp[zO,zJ,zQ]),(by simp[zO,zJ,zQ]),(by simp[zO,zJ,zQ]),(by simp[zO,zJ,zQ])⟩
 case round=>
  obtain⟨l,h,HLow,rfl,rfl,hB,c0,c1,c2,c3⟩:=hrel
  have hle:=HLow.le
  have hlen:=HLow.len
  have HLO:=zN HLow
  clear HLow
  by_cases hlt:l < h
  ·obtain⟨m,hm⟩:∃ m,m=(l+h) / 2:=⟨_,rfl⟩
   have hm1:l≤m:=by omega
   have hm2:m < h:=by omega
   have hmL:m < L.length:=by omega
   have hmd:((l:Int)+(h:Int)).tdiv 2=m:=by rw[Int.tdiv_eq_ediv_of_nonneg (by omega)];omega
   have hdlt:decide (l < h)=true:=zDt hlt
   clear hm
   obtain⟨q,hq⟩:∃ q,q=L[m]:=⟨_,rfl⟩
   obtain⟨d0,d1,d2,d3⟩:=HAT.out m hmL
   rw[←hq] at d0 d1 d2 d3
   have HQ:=zN hq
   clear hq
   replace d0:=zP hB d0
   replace d1:=zP hB d1
   replace d2:=zP hB d2
   replace d3:=zP hB d3
   have hBs:=hB.size
   have hpv2:Hid (pv q=.agg #[.int .i64 q.f,.int .i64 q.a,.int .i64 q.b,.int .i64 q.c]):=zN rfl
   go_wp2
   refine RX.region RX.fN (fun w'=>w'.cell? ⟨w.heap.size,0,none⟩=some (.int .i64 p.f)∧w'.cell? ⟨w.heap.size,1,none⟩=some (.int .i64 p.a)∧w'.cell? ⟨w.heap.size,2,none⟩=some (.int .i64 p.b)∧w'.cell? ⟨w.heap.size,3,none⟩=some (.int .i64 p.c)∧w'.cell? ⟨b,m*4,none⟩=some (.int .i64 q.f)∧w'.cell? ⟨b,m*4+1,none⟩=some (.int .i64 q.a)∧w'.cell? ⟨b,m*4+2,none⟩=some (.int .i64 q.b)∧w'.cell? ⟨b,m*4+3,none⟩=some (.int .i64 q.c)) (by kernel_rfl) (by kernel_rfl) (⟨c0,c1,c2,c3,d0,d1,d2,d3⟩) (fun OPS HO QR hQR=>?_)
   repeat (refine zeX (fun R hR=>?_);(first|refine zaX (by first|rfl|(rw[HO.out];rfl)) (by simp only[zA,zB,zC,zD];rfl) ?_|refine zbX (by first|rfl|(rw[HO.out];rfl)) rfl (by first|exact .inl rfl|exact .inr rfl) (by simp only[zE,zF,zG,zH];rfl) (by simp only[zA,zB,zC,zD];rfl) ?_|refine zcX (by first|rfl|(rw[HO.out];rfl)) rfl rfl (by simp only[zE,zF,zG,zH];rfl) (by simp only[zA,zB,zC,zD];rfl) ?_|(refine zdX (by first|rfl|(rw[HO.out];rfl)) rfl rfl rfl ?_;apply zEx;apply zEx;refine⟨fun w' hS K hK=>?_,?_,?_⟩;(focus (obtain⟨hS1,hS2,hS3,hS4,hS5,hS6,hS7,hS8⟩:=hS;go_wp2;exact hK _ _ (by simp only[zl,zG,zH];first|exact zf (by omega)|exact zg (by omega)|exact zh (by omega)|exact zi (by omega)|exact zj (by omega)|exact zk (by omega)|exact RX.bneB _|rfl) rfl));(focus (simp only[zA,zB,zC,zD];rfl))));refine hR _ _ ?_;clear hR R)
   refine zeX (fun R hR=>?_)
   refine zgX (by first|rfl|(rw[HO.out];rfl)) rfl (fun K hK=>?_)
   go_wp2_with fail
   rw[←hpv.out,←hpv2.out]
   refine (rless_any q p _).mono ?_
   rintro e w3 ⟨rfl,hb3⟩
   replace hb3:Below wr.heap.size wr w3:=⟨hb3.os,hb3.tape,hb3.output,hb3.size,hb3.block⟩
   replace c0:=zP hb3 c0
   replace c1:=zP hb3 c1
   replace c2:=zP hb3 c2
   replace c3:=zP hb3 c3
   replace d0:=zP hb3 d0
   replace d1:=zP hb3 d1
   replace d2:=zP hb3 d2
   replace d3:=zP hb3 d3
   have hB3:=hB.trans (hb3.mono hB.size)
   clear hb3 hB
   refine hK _ _ ⟨⟨c0,c1,c2,c3,d0,d1,d2,d3⟩,hR _ _ ?_⟩;clear hK K hR R
   repeat (refine zeX (fun R hR=>?_);(first|refine zaX (by first|rfl|(rw[HO.out];rfl)) (by simp only[zA,zB,zC,zD];rfl) ?_|refine zbX (by first|rfl|(rw[HO.out];rfl)) rfl (by first|exact .inl rfl|exact .inr rfl) (by simp only[zE,zF,zG,zH];rfl) (by simp only[zA,zB,zC,zD];rfl) ?_|refine zcX (by first|rfl|(rw[HO.out];rfl)) rfl rfl (by simp only[zE,zF,zG,zH];rfl) (by simp only[zA,zB,zC,zD];rfl) ?_|(refine zdX (by first|rfl|(rw[HO.out];rfl)) rfl rfl rfl ?_;apply zEx;apply zEx;refine⟨fun w' hS K hK=>?_,?_,?_⟩;(focus (obtain⟨hS1,hS2,hS3,hS4,hS5,hS6,hS7,hS8⟩:=hS;go_wp2;exact hK _ _ (by simp only[zl,zG,zH];first|exact zf (by omega)|exact zg (by omega)|exact zh (by omega)|exact zi (by omega)|exact zj (by omega)|exact zk (by omega)|exact RX.bneB _|rfl) rfl));(focus (simp only[zA,zB,zC,zD];rfl))));refine hR _ _ ?_;clear hR R)
   refine RX.wpL_nil (hQR _ _ (⟨c0,c1,c2,c3,d0,d1,d2,d3⟩) ?_);clear hQR QR HO OPS
   by_cases hb:Before q p
   ·have hbd:decide (Before q p)=true:=zDt hb
    have HL2:Low L p (m+1) h:=HLO.out.up HS.out hm1 hm2 hmL (by rw[←HQ.out];exact hb)
    rw[hbd]
    have HL3:=zN HL2
    clear hb hbd HL2
    go_wp2
    go_roundw
    case rel=>first|exact⟨m+1,h,HL3.out,by go_num,rfl,hB3,c0,c1,c2,c3⟩|((repeat apply zEx);exact⟨⟨m+1,h,HL3.out,by go_num,rfl,hB3,c0,c1,c2,c3⟩,rfl⟩)
    case measure=>simp[intOf];omega
   ·have hbd:decide (Before q p)=false:=zDf hb
    have HL2:Low L p l m:=HLO.out.down HS.out hm1 hm2 hmL (by rw[←HQ.out];exact hb)
    rw[hbd]
    have HL3:=zN HL2
    clear hb hbd HL2
    go_wp2
    go_roundw
    case rel=>first|exact⟨l,m,HL3.out,rfl,rfl,hB3,c0,c1,c2,c3⟩|((repeat apply zEx);exact⟨⟨l,m,HL3.out,rfl,rfl,hB3,c0,c1,c2,c3⟩,rfl⟩)
    case measure=>simp[intOf];omega
  ·obtain rfl:l=h:=by omega
   have hBs:=hB.size
   by_cases hll:l < L.length
   ·obtain⟨q,hq⟩:∃ q,q=L[l]:=⟨_,rfl⟩
    obtain⟨d0,d1,d2,d3⟩:=HAT.out l hll
    rw[←hq] at d0 d1 d2 d3
    replace d0:=zP hB d0
    replace d1:=zP hB d1
    replace d2:=zP hB d2
    replace d3:=zP hB d3
    have hl0:(0:Int)≤(l:Int):=by omega
    have hlL:(l:Int) < (L.length:Int):=by omega
    by_cases he:q=p
    ·have HFI:Hid (foundI L p=l):=zN (by rw[HF.out,HLO.out.found HS.out hll (by rw[←hq];exact he)])
     subst he
     clear hq HLO
     have b0:((q.f:Int) == (q.f:Int))=true:=by rw[beq_iff_eq]
     have b1:((q.a:Int) == (q.a:Int))=true:=by rw[beq_iff_eq]
     have b2:((q.b:Int) == (q.b:Int))=true:=by rw[beq_iff_eq]
     have b3:((q.c:Int) == (q.c:Int))=true:=by rw[beq_iff_eq]
     go_wp2
     refine RX.region RX.fN (fun w'=>w'=_) (by kernel_rfl) (by kernel_rfl) rfl (fun OPS HO QR hQR=>?_)
     repeat (refine zeX (fun R hR=>?_);(first|refine zaX (by first|rfl|(rw[HO.out];rfl)) (by simp only[zA,zB,zC,zD];rfl) ?_|refine zbX (by first|rfl|(rw[HO.out];rfl)) rfl (by first|exact .inl rfl|exact .inr rfl) (by simp only[zE,zF,zG,zH];rfl) (by simp only[zA,zB,zC,zD];rfl) ?_|refine zcX (by first|rfl|(rw[HO.out];rfl)) rfl rfl (by simp only[zE,zF,zG,zH];rfl) (by simp only[zA,zB,zC,zD];rfl) ?_|(refine zdX (by first|rfl|(rw[HO.out];rfl)) rfl rfl rfl ?_;apply zEx;apply zEx;refine⟨fun w' hS K hK=>?_,?_,?_⟩;(focus (subst hS;go_wp2;exact hK _ _ (by simp only[zl,zG,zH];first|exact zf (by omega)|exact zg (by omega)|exact zh (by omega)|exact zi (by omega)|exact zj (by omega)|exact zk (by omega)|exact RX.bneB _|rfl) rfl));(focus (simp only[zA,zB,zC,zD];rfl))));refine hR _ _ ?_;clear hR R)
     refine RX.wpL_nil (hQR _ _ rfl ?_);clear hQR QR HO OPS
     go_wp2
     go_ret
     rw[HFI.out]
     exact⟨rfl,(by repeat (first|(with_reducible first|assumption|exact zBr _ _|refine zBs ?_ (by first|omega|(simp<;>omega)) _|refine zBa ?_ (by first|omega|(simp<;>omega)) _|apply zBd)|assumption))⟩
    ·have HFI:Hid (foundI L p=-1):=zN (by rw[HF.out,HLO.out.none HS.out (fun hh=>by rw[←hq];exact he)])
     have hd:q.f≠p.f∨(q.f=p.f∧q.a≠p.a)∨(q.f=p.f∧q.a=p.a∧q.b≠p.b)∨(q.f=p.f∧q.a=p.a∧q.b=p.b∧q.c≠p.c):=by
      by_cases e0:q.f=p.f
      ·by_cases e1:q.a=p.a
       ·by_cases e2:q.b=p.b
        ·by_cases e3:q.c=p.c
         ·exact absurd (Pl.ext' e0 e1 e2 e3) he
         ·exact .inr (.inr (.inr ⟨e0,e1,e2,e3⟩))
        ·exact .inr (.inr (.inl ⟨e0,e1,e2⟩))
       ·exact .inr (.inl ⟨e0,e1⟩)
      ·exact .inl e0
     clear hq HLO he
     rcases hd with e0|⟨e0,e1⟩|⟨e0,e1,e2⟩|⟨e0,e1,e2,e3⟩
     ·have b0:((q.f:Int) == (p.f:Int))=false:=by rw[beq_eq_false_iff_ne];omega
      clear e0
      go_wp2
      refine RX.region RX.fN (fun w'=>w'=_) (by kernel_rfl) (by kernel_rfl) rfl (fun OPS HO QR hQR=>?_)
      repeat (refine zeX (fun R hR=>?_);(first|refine zaX (by first|rfl|(rw[HO.out];rfl)) (by simp only[zA,zB,zC,zD];rfl) ?_|refine zbX (by first|rfl|(rw[HO.out];rfl)) rfl (by first|exact .inl rfl|exact .inr rfl) (by simp only[zE,zF,zG,zH];rfl) (by simp only[zA,zB,zC,zD];rfl) ?_|refine zcX (by first|rfl|(rw[HO.out];rfl)) rfl rfl (by simp only[zE,zF,zG,zH];rfl) (by simp only[zA,zB,zC,zD];rfl) ?_|(refine zdX (by first|rfl|(rw[HO.out];rfl)) rfl rfl rfl ?_;apply zEx;apply zEx;refine⟨fun w' hS K hK=>?_,?_,?_⟩;(focus (subst hS;go_wp2;exact hK _ _ (by simp only[zl,zG,zH];first|exact zf (by omega)|exact zg (by omega)|exact zh (by omega)|exact zi (by omega)|exact zj (by omega)|exact zk (by omega)|exact RX.bneB _|rfl) rfl));(focus (simp only[zA,zB,zC,zD];rfl))));refine hR _ _ ?_;clear hR R)
      refine RX.wpL_nil (hQR _ _ rfl ?_);clear hQR QR HO OPS
      go_wp2
      go_ret
      rw[HFI.out]
      exact⟨rfl,(by repeat (first|(with_reducible first|assumption|exact zBr _ _|refine zBs ?_ (by first|omega|(simp<;>omega)) _|refine zBa ?_ (by first|omega|(simp<;>omega)) _|apply zBd)|assumption))⟩
     ·have b0:((q.f:Int) == (p.f:Int))=true:=by rw[beq_iff_eq];omega
      have b1:((q.a:Int) == (p.a:Int))=false:=by rw[beq_eq_false_iff_ne];omega
      clear e0 e1
      go_wp2
      refine RX.region RX.fN (fun w'=>w'=_) (by kernel_rfl) (by kernel_rfl) rfl (fun OPS HO QR hQR=>?_)
      repeat (refine zeX (fun R hR=>?_);(first|refine zaX (by first|rfl|(rw[HO.out];rfl)) (by simp only[zA,zB,zC,zD];rfl) ?_|refine zbX (by first|rfl|(rw[HO.out];rfl)) rfl (by first|exact .inl rfl|exact .inr rfl) (by simp only[zE,zF,zG,zH];rfl) (by simp only[zA,zB,zC,zD];rfl) ?_|refine zcX (by first|rfl|(rw[HO.out];rfl)) rfl rfl (by simp only[zE,zF,zG,zH];rfl) (by simp only[zA,zB,zC,zD];rfl) ?_|(refine zdX (by first|rfl|(rw[HO.out];rfl)) rfl rfl rfl ?_;apply zEx;apply zEx;refine⟨fun w' hS K hK=>?_,?_,?_⟩;(focus (subst hS;go_wp2;exact hK _ _ (by simp only[zl,zG,zH];first|exact zf (by omega)|exact zg (by omega)|exact zh (by omega)|exact zi (by omega)|exact zj (by omega)|exact zk (by omega)|exact RX.bneB _|rfl) rfl));(focus (simp only[zA,zB,zC,zD];rfl))));refine hR _ _ ?_;clear hR R)
      refine RX.wpL_nil (hQR _ _ rfl ?_);clear hQR QR HO OPS
      go_wp2
      go_ret
      rw[HFI.out]
      exact⟨rfl,(by repeat (first|(with_reducible first|assumption|exact zBr _ _|refine zBs ?_ (by first|omega|(simp<;>omega)) _|refine zBa ?_ (by first|omega|(simp<;>omega)) _|apply zBd)|assumption))⟩
     ·have b0:((q.f:Int) == (p.f:Int))=true:=by rw[beq_iff_eq];omega
      have b1:((q.a:Int) == (p.a:Int))=true:=by rw[beq_iff_eq];omega
      have b2:((q.b:Int) == (p.b:Int))=false:=by rw[beq_eq_false_iff_ne];omega
      clear e0 e1 e2
      go_wp2
      refine RX.region RX.fN (fun w'=>w'=_) (by kernel_rfl) (by kernel_rfl) rfl (fun OPS HO QR hQR=>?_)
      repeat (refine zeX (fun R hR=>?_);(first|refine zaX (by first|rfl|(rw[HO.out];rfl)) (by simp only[zA,zB,zC,zD];rfl) ?_|refine zbX (by first|rfl|(rw[HO.out];rfl)) rfl (by first|exact .inl rfl|exact .inr rfl) (by simp only[zE,zF,zG,zH];rfl) (by simp only[zA,zB,zC,zD];rfl) ?_|refine zcX (by first|rfl|(rw[HO.out];rfl)) rfl rfl (by simp only[zE,zF,zG,zH];rfl) (by simp only[zA,zB,zC,zD];rfl) ?_|(refine zdX (by first|rfl|(rw[HO.out];rfl)) rfl rfl rfl ?_;apply zEx;apply zEx;refine⟨fun w' hS K hK=>?_,?_,?_⟩;(focus (subst hS;go_wp2;exact hK _ _ (by simp only[zl,zG,zH];first|exact zf (by omega)|exact zg (by omega)|exact zh (by omega)|exact zi (by omega)|exact zj (by omega)|exact zk (by omega)|exact RX.bneB _|rfl) rfl));(focus (simp only[zA,zB,zC,zD];rfl))));refine hR _ _ ?_;clear hR R)
      refine RX.wpL_nil (hQR _ _ rfl ?_);clear hQR QR HO OPS
      go_wp2
      go_ret
      rw[HFI.out]
      exact⟨rfl,(by repeat (first|(with_reducible first|assumption|exact zBr _ _|refine zBs ?_ (by first|omega|(simp<;>omega)) _|refine zBa ?_ (by first|omega|(simp<;>omega)) _|apply zBd)|assumption))⟩
     ·have b0:((q.f:Int) == (p.f:Int))=true:=by rw[beq_iff_eq];omega
      have b1:((q.a:Int) == (p.a:Int))=true:=by rw[beq_iff_eq];omega
      have b2:((q.b:Int) == (p.b:Int))=true:=by rw[beq_iff_eq];omega
      have b3:((q.c:Int) == (p.c:Int))=false:=by rw[beq_eq_false_iff_ne];omega
      clear e0 e1 e2 e3
      go_wp2
      refine RX.region RX.fN (fun w'=>w'=_) (by kernel_rfl) (by kernel_rfl) rfl (fun OPS HO QR hQR=>?_)
      repeat (refine zeX (fun R hR=>?_);(first|refine zaX (by first|rfl|(rw[HO.out];rfl)) (by simp only[zA,zB,zC,zD];rfl) ?_|refine zbX (by first|rfl|(rw[HO.out];rfl)) rfl (by first|exact .inl rfl|exact .inr rfl) (by simp only[zE,zF,zG,zH];rfl) (by simp only[zA,zB,zC,zD];rfl) ?_|refine zcX (by first|rfl|(rw[HO.out];rfl)) rfl rfl (by simp only[zE,zF,zG,zH];rfl) (by simp only[zA,zB,zC,zD];rfl) ?_|(refine zdX (by first|rfl|(rw[HO.out];rfl)) rfl rfl rfl ?_;apply zEx;apply zEx;refine⟨fun w' hS K hK=>?_,?_,?_⟩;(focus (subst hS;go_wp2;exact hK _ _ (by simp only[zl,zG,zH];first|exact zf (by omega)|exact zg (by omega)|exact zh (by omega)|exact zi (by omega)|exact zj (by omega)|exact zk (by omega)|exact RX.bneB _|rfl) rfl));(focus (simp only[zA,zB,zC,zD];rfl))));refine hR _ _ ?_;clear hR R)
      refine RX.wpL_nil (hQR _ _ rfl ?_);clear hQR QR HO OPS
      go_wp2
      go_ret
      rw[HFI.out]
      exact⟨rfl,(by repeat (first|(with_reducible first|assumption|exact zBr _ _|refine zBs ?_ (by first|omega|(simp<;>omega)) _|refine zBa ?_ (by first|omega|(simp<;>omega)) _|apply zBd)|assumption))⟩
   ·have HFI:Hid (foundI L p=-1):=zN (by rw[HF.out,HLO.out.none HS.out (fun hh=>absurd hh hll)])
    have hnl:¬ (l:Int) < (L.length:Int):=by omega
    clear HLO
    go_wp2
    refine RX.region RX.fN (fun w'=>w'=_) (by kernel_rfl) (by kernel_rfl) rfl (fun OPS HO QR hQR=>?_)
    repeat (refine zeX (fun R hR=>?_);(first|refine zaX (by first|rfl|(rw[HO.out];rfl)) (by simp only[zA,zB,zC,zD];rfl) ?_|refine zbX (by first|rfl|(rw[HO.out];rfl)) rfl (by first|exact .inl rfl|exact .inr rfl) (by simp only[zE,zF,zG,zH];rfl) (by simp only[zA,zB,zC,zD];rfl) ?_|refine zcX (by first|rfl|(rw[HO.out];rfl)) rfl rfl (by simp only[zE,zF,zG,zH];rfl) (by simp only[zA,zB,zC,zD];rfl) ?_|(refine zdX (by first|rfl|(rw[HO.out];rfl)) rfl rfl rfl ?_;apply zEx;apply zEx;refine⟨fun w' hS K hK=>?_,?_,?_⟩;(focus (subst hS;go_wp2;exact hK _ _ (by simp only[zl,zG,zH];first|exact zf (by omega)|exact zg (by omega)|exact zh (by omega)|exact zi (by omega)|exact zj (by omega)|exact zk (by omega)|exact RX.bneB _|rfl) rfl));(focus (simp only[zA,zB,zC,zD];rfl))));refine hR _ _ ?_;clear hR R)
    refine RX.wpL_nil (hQR _ _ rfl ?_);clear hQR QR HO OPS
    go_wp2
    go_ret
    rw[HFI.out]
    exact⟨rfl,(by repeat (first|(with_reducible first|assumption|exact zBr _ _|refine zBs ?_ (by first|omega|(simp<;>omega)) _|refine zBa ?_ (by first|omega|(simp<;>omega)) _|apply zBd)|assumption))⟩
theorem nodes_fit {n:Nat} (h1:1≤n) (h8:n≤8):0 < (nodesL n).length∧(nodesL n).length≤2000:=by
 constructor
 ·exact List.length_pos_of_mem (normal_mem (f:=0) (a:=0) (b:=0) (hh_mul h1 h8) (by omega) (by omega))
 ·have:=len_faces n 20
  have h64:=Nat.mul_le_mul (show n+1≤9 by omega) (show n+1≤9 by omega)
  rw[←sofar_end]
  exact Nat.le_trans (by rw[sofar_end];unfold nodesL;exact List.length_filter_le _ _) (by omega)
theorem rat_any (w:World) (n b cap:Nat) (h1:1≤n) (h8:n≤8) (q:Pl) (hq:q.Ok) (hat:PlsAt w b (nodesL n)) (hcap:(nodesL n).length≤cap) :
  Calls Tryz.prog 109 #[.slice (some ⟨b,0,none⟩) (nodesL n).length cap,.int .i64 q.f,.int .i64 q.a,.int .i64 q.b] w fun e w'=>e=.returned (.int .i64 (foundI (nodesL n) (normal q)))∧Below w.heap.size w w':=by
 obtain⟨hl0,hl1⟩:=nodes_fit h1 h8
 have hs:=hq.s
 have ec:(840:Int)-(q.a:Int)-(q.b:Int)=q.c:=by omega
 have hblt:b < w.heap.size:=by
  have:=zM _ _ (hat 0 hl0).1;simpa using this
 have HAT:=zN hat
 have HQ:=zN hq
 have hpv:Hid (pv q=.agg #[.int .i64 q.f,.int .i64 q.a,.int .i64 q.b,.int .i64 q.c]):=zN rfl
 clear hat hq
 go_enter Tryz.func109,Tryz.ntmps109
 go_wp2_with fail
 rw[←hpv.out]
 refine (rnormal_any q HQ.out _).mono ?_
 rintro e w1 ⟨rfl,hb1⟩
 obtain⟨p,hp⟩:∃ p,p=normal q:=⟨_,rfl⟩
 rw[←hp]
 have HPQ:=zN hp
 clear hp
 have hpv2:Hid (pv p=.agg #[.int .i64 p.f,.int .i64 p.a,.int .i64 p.b,.int .i64 p.c]):=zN rfl
 rw[hpv2.out]
 have hb1s:=hb1.size
 go_wp2_with fail
 rw[←hpv2.out]
 have hb2:Below w.heap.size w (w1.alloc (.cells #[.int .i64 p.f,.int .i64 p.a,.int .i64 p.b,.int .i64 p.c] 41)):=hb1.alloc hb1s _
 refine (rfind_any _ b cap (nodesL n) p hl0 (HAT.out.kept (hb2.block _ hblt)) (sorted_nodes h1 (by omega)) (by omega) hcap).mono ?_
 rintro e w3 ⟨rfl,hb3⟩
 have HB:=zN (hb2.trans (hb3.mono hb2.size))
 clear hb2 hb3 hb1
 go_wp2
 go_ret
 rw[HPQ.out]
 exact⟨rfl,HB.out⟩
structure Corner (n:Nat) (q:Pl):Prop where
 ok:q.Ok
 found:foundI (nodesL n) (normal q)=(atL n q:Int)
 le:atL n q≤100000
theorem rat_corner (w:World) (n b cap:Nat) (h1:1≤n) (h8:n≤8) (q:Pl) (hq:Corner n q) (hat:PlsAt w b (nodesL n)) (hcap:(nodesL n).length≤cap) (A B:Int) (hA:A=q.a) (hB:B=q.b) :
  Calls Tryz.prog 109 #[.slice (some ⟨b,0,none⟩) (nodesL n).length cap,.int .i64 q.f,.int .i64 A,.int .i64 B] w fun e w'=>e=.returned (.int .i64 (atL n q:Int))∧Below w.heap.size w w':=by
 subst hA;subst hB
 rw[←hq.found]
 exact rat_any w n b cap h1 h8 q hq.ok hat hcap
theorem corner_lat {n f a b:Nat} (h1:1≤n) (h8:n≤8) (hn:n*hh n=840) (hf:f < 20) (hab:a+b≤n):Corner n (lat n f a b):=by
 obtain⟨b1,b2,b3⟩:=atL_lat hn hf hab
 refine⟨lat_ok hn hf hab,?_,?_⟩
 ·unfold foundI;rw[b1]
 ·have:=(nodes_fit h1 h8).2;omega
end Go.Proofs.YtednaajanciabaaGreatDoor
namespace Go.RX
open Go.RowKit
theorem own_new {w:World} {B:Nat} {cs:Array Value} {e:TypeId} {size:Nat} (hB:w.heap[B]?=some (.cells cs e (0,0))) (hc:cs.size=size):w.ownsRow B e size (.slice (some ⟨B,0,none⟩) 1 1) 1 cs.toList:=by
 refine⟨by simpa using hc,.inr ⟨B,1,cs,rfl,Nat.le_refl _,hB,Nat.le_refl _,by unfold maxLen;omega,by omega,?_⟩⟩
 rw[Nat.one_mul,List.take_of_length_le (by simpa using Nat.le_of_eq hc)]
theorem run_app_nil {P:Program} {w:World} {t ty e:TypeId} {z:Value} {size bytes:Nat} (E:ElemOf P t e z size bytes) (a:Addr) (n c c':Nat) (hn:n≤c):(Builtin.append_ #[t,t] ty #[.slice (some a) n c,.slice none 0 c']).run P w=.ok (.slice (some a) n c) w:=by
 obtain⟨i0,hi,hz,hsize,hby⟩:=info_parts E.hi
 simp[Builtin.append_,run_underlying E.ht,sizeOf,typeInfo,hi,Builtin.lenOf,Builtin.firstCells,hn,storeCells]
def SrcAt (w:World) (A:Option Addr) (m:Nat) (news:List Value):Prop:=0 < m→∃ ad,A=some ad∧∀ j u,news[j]?=some u→w.cell? (ad.add j)=some u
theorem add_add (a:Addr) (i j:Nat):(a.add i).add j=a.add (i+j):=by
 unfold Addr.add
 by_cases hi:i=0<;>by_cases hj:j=0<;>simp[hi,hj,zQ]
theorem SrcAt.cut {w:World} {A:Option Addr} {n k cap size:Nat} {xs:List Value} (h:SrcAt w A n xs) (hk:k≤n) (hc:n≤cap):SrcAt w (if cap=k then A else A.map (·.add (k*size))) (n-k) (xs.drop (k*size)):=fun hm=>by
 obtain⟨ad,rfl,hcell⟩:=h (by omega)
 rw[if_neg (by omega)]
 refine⟨ad.add (k*size),rfl,fun j u hu=>?_⟩
 rw[add_add]
 exact hcell _ u (by rw[←hu,List.getElem?_drop])
theorem SrcAt.of_own {w:World} {base:Nat} {e:TypeId} {size n c:Nat} {A:Option Addr} {xs:List Value} (h:w.ownsRow base e size (.slice A n c) n xs):SrcAt w A n xs:=fun hn=>by
 obtain⟨g,cap,hv,_,hlt⟩:=h.form hn
 have hA:A=some ⟨g,0,none⟩:=by injection hv
 subst hA
 exact⟨_,rfl,h.cells (g:=g) rfl⟩
theorem SrcAt.take {w:World} {A:Option Addr} {n k size:Nat} {xs:List Value} (h:SrcAt w A n xs) (hk:k≤n):SrcAt w A k (xs.take (k*size)):=fun hm=>by
 obtain⟨ad,e,hc⟩:=h (by omega)
 refine⟨ad,e,fun j u hu=>hc j u ?_⟩
 rw[List.getElem?_take] at hu
 split at hu
 ·exact hu
 ·cases hu
theorem SrcAt.none (w:World) (A:Option Addr) (xs:List Value):SrcAt w A 0 xs:=fun h=>by omega
theorem SrcAt.keep {w w':World} {A:Option Addr} {m:Nat} {news:List Value} (h:SrcAt w A m news) (hb:∀ p v,w.cell? p=some v→w'.cell? p=some v):SrcAt w' A m news:=fun hm=>by
 obtain⟨ad,e,hc⟩:=h hm
 exact⟨ad,e,fun j u hu=>hb _ _ (hc j u hu)⟩
theorem wp_apr {P:Program} {o:Oper} {a:Act} {w:World} {K:Act→World→Prop} {Q:Exit→Act→World→Prop} {t e:TypeId} {z:Value} {size bytes:Nat} (E:ElemOf P t e z size bytes) (s x:Operand)
  (ho:o.op=.call { callee:=.builtin .append,args:=#[s,x],argTypes:=#[t,t] })
  (B:Nat) (cs:Array Value) (hs:a.eval s=.slice (some ⟨B,0,none⟩) 1 1) (hB:w.heap[B]?=some (.cells cs e (0,0))) (hc:cs.size=size)
  (A:Option Addr) (m c:Nat) (news:List Value) (hx:a.eval x=.slice A m c) (hl:news.length=m*size) (hA:SrcAt w A m news) (h1:∀ u∈news,u.oneCell'=true)
  (hbytes:(1+m)*bytes≤140737488355328) (hn:1+m≤140737488355328)
  (h:∀ v' w',w'.ownsRow B e size v' (1+m) (cs.toList ++ news)→w.grownBy w' (some B)→(v'.ownBlock=some B∨v'.ownBlock=some w.heap.size)→K (a.put o.dst v') w'):o.wp P a w K Q:=by
 have hlt:B < w.heap.size:=by
  rcases Nat.lt_or_ge B w.heap.size with h0|h0
  ·exact h0
  ·rw[Array.getElem?_eq_none h0] at hB;cases hB
 have hown:=own_new hB hc
 cases A with
 |none=>
  have hm:m=0:=by
   rcases Nat.eq_zero_or_pos m with h0|h0
   ·exact h0
   ·obtain⟨ad,e0,_⟩:=hA h0;cases e0
  subst hm
  have hnn:news=[]:=List.eq_nil_of_length_eq_zero (by simpa using hl)
  subst hnn
  have hrun:=run_app_nil (P:=P) (w:=w) (ty:=o.type) E ⟨B,0,none⟩ 1 1 c (Nat.le_refl _)
  unfold Oper.wp execOp
  simp only[ho,resolve,invoke,builtin,Sem.run_bind,Sem.run_pure,Result.andThen_ok,List.map_toArray,List.map_cons,List.map_nil,hs,hx,hrun]
  exact h _ _ (by simpa using hown) (World.grownBy.refl _ _) (.inl rfl)
 |some ad=>
  have hcell:∀ j u,news[j]?=some u→w.cell? (ad.add j)=some u:=fun j u hu=>by
   rcases Nat.eq_zero_or_pos m with h0|h0
   ·subst h0
    have hnn:news=[]:=List.eq_nil_of_length_eq_zero (by simpa using hl)
    subst hnn
    simp at hu
   ·obtain⟨ad',e0,hc'⟩:=hA h0
    injection e0 with e0
    subst e0
    exact hc' j u hu
  obtain⟨i0,hi,hz,hsize,hby⟩:=info_parts E.hi
  obtain⟨v',w',hrun,h2,h3,_,h5⟩:=run_append_own_at (P:=P) w B t o.type e i0 z size bytes E.ht hi hz hsize hby E.hz E.pos _ 1 _ hown ad m c news hl hcell h1 (by unfold maxLen;omega) hbytes (by omega)
  unfold Oper.wp execOp
  simp only[ho,resolve,invoke,builtin,Sem.run_bind,Sem.run_pure,Result.andThen_ok,List.map_toArray,List.map_cons,List.map_nil,hs,hx,hrun]
  exact h v' w' h2 h3 h5
theorem wpl_apr {P:Program} {ops:Array Oper} {rest:List Oper} {o:Oper} {a:Act} {w:World} {Q:Exit→Act→World→Prop} {t e:TypeId} {z:Value} {size bytes:Nat} (hgd:o.guard=none) (E:ElemOf P t e z size bytes) (s x:Operand)
  (ho:o.op=.call { callee:=.builtin .append,args:=#[s,x],argTypes:=#[t,t] })
  (B:Nat) (cs:Array Value) (hs:a.eval s=.slice (some ⟨B,0,none⟩) 1 1) (hB:w.heap[B]?=some (.cells cs e (0,0))) (hc:cs.size=size)
  (A:Option Addr) (m c:Nat) (news:List Value) (hx:a.eval x=.slice A m c) (hl:news.length=m*size) (hA:SrcAt w A m news) (h1:∀ u∈news,u.oneCell'=true)
  (hbytes:(1+m)*bytes≤140737488355328) (hn:1+m≤140737488355328)
  (h:∀ v' w',w'.ownsRow B e size v' (1+m) (cs.toList ++ news)→w.grownBy w' (some B)→(v'.ownBlock=some B∨v'.ownBlock=some w.heap.size)→wpList P ops Q rest (a.put o.dst v') w'):wpList P ops Q (o :: rest) a w:=
 wpList_plain hgd fun _ hK=>wp_apr E s x ho B cs hs hB hc A m c news hx hl hA h1 hbytes hn fun v' w' a b c=>hK _ _ (h v' w' a b c)
theorem wp_apg {P:Program} {o:Oper} {a:Act} {w:World} {K:Act→World→Prop} {Q:Exit→Act→World→Prop} {t e:TypeId} {z:Value} {size bytes:Nat} (E:ElemOf P t e z size bytes) (s x:Operand)
  (ho:o.op=.call { callee:=.builtin .append,args:=#[s,x],argTypes:=#[t,t] })
  (A:Option Addr) (k:Nat) (olds:List Value) (hs:a.eval s=.slice A k k) (hnone:A=none→k=0) (hlo:olds.length=k*size) (hA:SrcAt w A k olds)
  (base m:Nat) (v:Value) (news:List Value) (hx:a.eval x=v) (hown:w.ownsRow base e size v m news) (hm:0 < m) (h1:∀ u∈news,u.oneCell'=true)
  (hbytes:(k+m)*bytes≤140737488355328) (hn:k+m≤140737488355328)
  (h:∀ v' w',w'.ownsRow w.heap.size e size v' (k+m) (olds ++ news)→w.grownBy w' none→K (a.put o.dst v') w'):o.wp P a w K Q:=by
 obtain⟨i0,hi,hz,hsize,hby⟩:=info_parts E.hi
 obtain⟨g,cap,hv,_,hlt⟩:=hown.form hm
 subst hv
 cases A with
 |none=>
  have hk:=hnone rfl
  subst hk
  obtain rfl:olds=[]:=List.eq_nil_of_length_eq_zero (by simpa using hlo)
  obtain⟨v',w',hrun,r1,r2,_⟩:=run_append_own (P:=P) w w.heap.size t o.type e i0 z size bytes E.ht hi hz hsize hby E.hz E.pos (.slice none 0 0) 0 [] (World.ownsRow_nil w _ e size) ⟨g,0,none⟩ m cap news hown.1 (hown.cells (g:=g) rfl) h1 (by unfold maxLen;omega) hbytes (Nat.le_refl _)
  unfold Oper.wp execOp
  simp only[ho,resolve,invoke,builtin,Sem.run_bind,Sem.run_pure,Result.andThen_ok,List.map_toArray,List.map_cons,List.map_nil,hs,hx,hrun]
  exact h v' w' r1 r2
 |some ad=>
  have hcell:∀ j u,olds[j]?=some u→w.cell? (ad.add j)=some u:=fun j u hu=>by
   rcases Nat.eq_zero_or_pos k with h0|h0
   ·subst h0
    have hnn:olds=[]:=List.eq_nil_of_length_eq_zero (by simpa using hlo)
    subst hnn
    simp at hu
   ·obtain⟨ad',e0,hc'⟩:=hA h0
    injection e0 with e0
    subst e0
    exact hc' j u hu
  obtain⟨v',w',hrun,r1,r2⟩:=run_append_arg_grows (P:=P) w t o.type e i0 z size bytes E.ht hi hz hsize hby E.hz E.pos ad k k olds hlo hcell ⟨g,0,none⟩ m cap news hown.1 (hown.cells (g:=g) rfl) (by omega) (by unfold maxLen;omega) hbytes
  unfold Oper.wp execOp
  simp only[ho,resolve,invoke,builtin,Sem.run_bind,Sem.run_pure,Result.andThen_ok,List.map_toArray,List.map_cons,List.map_nil,hs,hx,hrun]
  exact h v' w' r1 r2
theorem wpl_apg {P:Program} {ops:Array Oper} {rest:List Oper} {o:Oper} {a:Act} {w:World} {Q:Exit→Act→World→Prop} {t e:TypeId} {z:Value} {size bytes:Nat} (hgd:o.guard=none) (E:ElemOf P t e z size bytes) (s x:Operand)
  (ho:o.op=.call { callee:=.builtin .append,args:=#[s,x],argTypes:=#[t,t] })
  (A:Option Addr) (k:Nat) (olds:List Value) (hs:a.eval s=.slice A k k) (hnone:A=none→k=0) (hlo:olds.length=k*size) (hA:SrcAt w A k olds)
  (base m:Nat) (v:Value) (news:List Value) (hx:a.eval x=v) (hown:w.ownsRow base e size v m news) (hm:0 < m) (h1:∀ u∈news,u.oneCell'=true)
  (hbytes:(k+m)*bytes≤140737488355328) (hn:k+m≤140737488355328)
  (h:∀ v' w',w'.ownsRow w.heap.size e size v' (k+m) (olds ++ news)→w.grownBy w' none→wpList P ops Q rest (a.put o.dst v') w'):wpList P ops Q (o :: rest) a w:=
 wpList_plain hgd fun _ hK=>wp_apg E s x ho A k olds hs hnone hlo hA base m v news hx hown hm h1 hbytes hn fun v' w' a b=>hK _ _ (h v' w' a b)
end Go.RX
namespace Go.Proofs.YtednaajanciabaaGreatDoor
open Go.RowKit Go.Grid
def ShRow (w:World) (base:Nat) (v:Value) (S:List (Nat × Nat)):Prop:=w.ownsRow base 123 2 v S.length (S.flatMap encN)
theorem ShRow.nil (w:World) (base:Nat):ShRow w base (.slice none 0 0) []:=World.ownsRow_nil _ _ _ _
theorem ShRow.kept {w w':World} {base:Nat} {v:Value} {S:List (Nat × Nat)} (h:ShRow w base v S) (hb:Below w.heap.size w w'):ShRow w' base v S:=
 World.ownsRow.kept (row:=none) h ⟨hb.os,hb.tape,hb.output,hb.size,fun k hk _=>hb.block k hk⟩ (by
  cases v.ownBlock with
  |none=>exact .inl rfl
  |some k=>exact .inr (by simp))
theorem ShRow.mono {w:World} {base base':Nat} {v:Value} {S:List (Nat × Nat)} (h:ShRow w base v S) (hb:base'≤base):ShRow w base' v S:=own_mono h hb
theorem encN_get:∀ (S:List (Nat × Nat)) (m:Nat) (h:m < S.length) (j:Nat),j < 2→(S.flatMap encN)[m*2+j]?=(encN S[m])[j]?
 |p :: L,0,h,j,hj=>by
  simp only[List.flatMap_cons,Nat.zero_mul,Nat.zero_add]
  rw[List.getElem?_append_left (by simp[encN];omega)];rfl
 |p :: L,m+1,h,j,hj=>by
  have ih:=encN_get L m (by simpa using h) j hj
  simp only[List.flatMap_cons]
  rw[List.getElem?_append_right (by simp[encN];omega),show (m+1)*2+j-(encN p).length=m*2+j by simp[encN];omega,ih];rfl
theorem encN_len (S:List (Nat × Nat)):(S.flatMap encN).length=S.length*2:=by
 induction S with
 |nil=>rfl
 |cons p S ih=>rw[List.flatMap_cons,List.length_append,ih];simp[encN];omega
theorem encN_drop (S:List (Nat × Nat)) (k:Nat):(S.flatMap encN).drop (k*2)=(S.drop k).flatMap encN:=by
 induction S generalizing k with
 |nil=>simp
 |cons p S ih=>
  cases k with
  |zero=>simp
  |succ k=>
   rw[List.flatMap_cons,List.drop_succ_cons,←ih k,show (k+1)*2=(encN p).length+k*2 by simp[encN];omega,←List.drop_drop,List.drop_left]
theorem encN_take (S:List (Nat × Nat)) (k:Nat):(S.flatMap encN).take (k*2)=(S.take k).flatMap encN:=by
 induction S generalizing k with
 |nil=>simp
 |cons p S ih=>
  cases k with
  |zero=>simp
  |succ k=>
   rw[List.flatMap_cons,List.take_succ_cons,List.flatMap_cons,←ih k,show (k+1)*2=(encN p).length+k*2 by simp[encN];omega,List.take_length_add_append]
theorem encN_one {S:List (Nat × Nat)}:∀ u∈S.flatMap encN,u.oneCell'=true:=fun u hu=>by
 obtain⟨x,_,h⟩:=List.mem_flatMap.1 hu
 simp only[encN,List.mem_cons,List.not_mem_nil,or_false] at h
 rcases h with rfl|rfl<;>rfl
theorem ShRow.form {w:World} {base:Nat} {v:Value} {S:List (Nat × Nat)} (h:ShRow w base v S):∃ p cap b,v=.slice p S.length cap∧S.length≤cap∧(0 < S.length→p=some ⟨b,0,none⟩∧base≤b∧b < w.heap.size)∧SharesAt w b S∧(p=none→cap=0):=by
 rcases h.2 with ⟨h1,h2⟩|⟨g,cap,cur,h1,h2,h3,h4,_⟩
 ·exact⟨none,0,0,by rw[h1,h2],by omega,fun hh=>by omega,fun j hj=>by omega,fun _=>rfl⟩
 ·refine⟨_,cap,g,h1,h4,fun hp=>⟨rfl,h2,(World.ownsRow.lt h g (by rw[h1];rfl)).2⟩,fun j hj=>?_,fun e=>by cases e⟩
  subst h1
  have key:∀ i,i < 2→w.cell? ⟨g,j*2+i,none⟩=(encN S[j])[i]?:=fun i hi=>by
   rw[World.ownsRow.cellAt h (j*2+i) (by omega),←encN_get S j hj i hi]
  exact⟨key 0 (by omega),key 1 (by omega)⟩
theorem ShRow.src {w w':World} {base cap:Nat} {p:Option Addr} {S:List (Nat × Nat)} (h:ShRow w base (.slice p S.length cap) S) (hb:Below w.heap.size w w'):RX.SrcAt w' p S.length (S.flatMap encN):=
 (RX.SrcAt.of_own h).keep (fun _ _ hp=>zP hb hp)
theorem ShRow.ins {w:World} {base base':Nat} {v:Value} {S:List (Nat × Nat)} {k nd wt:Nat} (hk:k≤S.length) (h:w.ownsRow base 123 2 v (k+(1+(S.length-k))) ((S.take k).flatMap encN ++ (#[Value.int .i64 nd,.int .i64 wt].toList ++ (S.drop k).flatMap encN))) (hb:base'≤base):ShRow w base' v (S.take k ++ (nd,wt) :: S.drop k):=by
 unfold ShRow
 have e1:(S.take k ++ (nd,wt) :: S.drop k).length=k+(1+(S.length-k)):=by
  rw[List.length_append,List.length_take,List.length_cons,List.length_drop];omega
 have e2:(S.take k ++ (nd,wt) :: S.drop k).flatMap encN=(S.take k).flatMap encN ++ (#[Value.int .i64 nd,.int .i64 wt].toList ++ (S.drop k).flatMap encN):=by
  rw[List.flatMap_append,List.flatMap_cons];rfl
 rw[e1,e2]
 exact own_mono h hb
theorem one_ins (nd wt:Int) (S:List (Nat × Nat)):∀ u∈#[Value.int .i64 nd,.int .i64 wt].toList ++ S.flatMap encN,u.oneCell'=true:=fun u hu=>by
 rcases List.mem_append.1 hu with hu|hu
 ·simp only[List.mem_cons,List.not_mem_nil,or_false] at hu;rcases hu with rfl|rfl<;>rfl
 ·exact encN_one u hu
theorem drop_len (S:List (Nat × Nat)) (k:Nat):((S.drop k).flatMap encN).length=(S.length-k)*2:=by rw[encN_len,List.length_drop]
theorem take_len (S:List (Nat × Nat)) {k:Nat} (hk:k≤S.length):((S.take k).flatMap encN).length=k*2:=by rw[encN_len,List.length_take,Nat.min_eq_left hk]
theorem rshare_any (w:World) (base:Nat) (v:Value) (S:List (Nat × Nat)) (nd wt:Nat) (hrow:ShRow w base v S) (hb0:base≤w.heap.size) (hA:Asc S) (hne:∀ y∈S,y.1≠nd) (hl:S.length≤1000) (hnd:nd≤100000) :
  Calls Tryz.prog 108 #[v,.int .i64 nd,.int .i64 wt] w fun e w'=>∃ v' T,e=.returned v'∧ShRow w' base v' T∧Asc T∧T.Perm (S ++ if 0 < wt then [(nd,wt)] else [])∧Below w.heap.size w w':=by
 obtain⟨p,cap,b,rfl,hcap,hpos,hat,hpn⟩:=hrow.form
 by_cases hw0:0 < wt
 ·have hwb:((wt:Int) == 0)=false:=by rw[beq_eq_false_iff_ne];omega
  rw[if_pos hw0]
  have HR:=zN hrow
  have HP:=zN hpos
  have HAT:=zN hat
  have HPN:=zN hpn
  have HA:=zN hA
  have HNE:=zN hne
  clear hrow hpos hat hpn hA hne
  go_enter Tryz.func108,Tryz.ntmps108
  go_wp2
  go_loopw [7] (fun i wr=>∃ k:Nat,k≤S.length∧i=.int .i64 k∧Hid (∀ j (h:j < S.length),j < k→S[j].1 < nd)∧Below w.heap.size w wr) (fun i _=>S.length-(intOf i).toNat)
  case atStart=>exact⟨0,Nat.zero_le _,rfl,zN (fun j _ h=>by omega),(by repeat (first|(with_reducible first|assumption|exact zBr _ _|refine zBs ?_ (by first|omega|(simp<;>omega)) _|refine zBa ?_ (by first|omega|(simp<;>omega)) _|apply zBd)|assumption))⟩
  case round=>
   obtain⟨k,hk,rfl,HK,hB⟩:=hrel
   have hend:(hw:k=S.length∨∃ h:k < S.length,nd≤S[k].1)→Hid (Asc (S.take k ++ (nd,wt) :: S.drop k)∧(S.take k ++ (nd,wt) :: S.drop k).Perm (S ++ [(nd,wt)])):=fun hw=>zN ⟨ins_asc HA.out HK.out (fun h=>by
     rcases hw with hw|⟨_,hw⟩
     ·omega
     ·exact hw) HNE.out,(ins_perm S k (nd,wt)).trans (List.perm_append_singleton _ _).symm⟩
   have HEND:=zN hend
   clear hend
   have hfin:(k=S.length∨∃ h:k < S.length,nd≤S[k].1)→True:=fun _=>trivial
   clear hfin
   by_cases hlt:k < S.length
   ·have hdk:decide ((k:Int) < (S.length:Int))=true:=zDt (by omega)
    have hdk2:decide (k < S.length)=true:=zDt hlt
    obtain⟨rfl,_,_⟩:=HP.out (by omega)
    obtain⟨c0,c1⟩:=HAT.out k hlt
    obtain⟨x,hx⟩:∃ x,x=S[k].1:=⟨_,rfl⟩
    rw[←hx] at c0
    have HX:=zN hx
    clear hx c1
    replace c0:=zP hB c0
    have hBs:=hB.size
    by_cases hxn:x < nd
    ·have hdx:decide (x < nd)=true:=zDt hxn
     have HK2:Hid (∀ j (h:j < S.length),j < k+1→S[j].1 < nd):=zN (fun j h hj=>by
      by_cases e:j=k
      ·subst e;rw[←HX.out];exact hxn
      ·exact HK.out j h (by omega))
     clear HEND
     go_wp2
     go_roundw
     case rel=>first|exact⟨k+1,by omega,by go_num,HK2,hB⟩|((repeat apply zEx);exact⟨⟨k+1,by omega,by go_num,HK2,hB⟩,rfl⟩)
     case measure=>simp[intOf];omega
    ·have hdx:decide (x < nd)=false:=zDf hxn
     have HE:=HEND.out (.inr ⟨hlt,by rw[←HX.out];omega⟩)
     clear HEND
     have hkc:¬ cap=k:=by omega
     have hrow:=HR.out.kept hB
     have hb1:Below wr.heap.size wr (wr.alloc (.cells #[.int .i64 nd,.int .i64 wt] 123)):=(zBr _ _).alloc (Nat.le_refl _) _
     have hs1:=hrow.src hb1
     have hsrc:RX.SrcAt (wr.alloc (.cells #[.int .i64 nd,.int .i64 wt] 123)) (some ⟨b,k*2,none⟩) (S.length-k) ((S.drop k).flatMap encN):=by
      have h9:=hs1.cut (k:=k) (cap:=cap) (size:=2) (by omega) hcap
      rw[if_neg hkc,encN_drop] at h9
      simpa[Addr.add_lit] using h9
     go_wp2_with (first
      |(refine RX.wpl_apr (by rfl) elSh _ _ (by rfl) wr.heap.size #[.int .i64 nd,.int .i64 wt] (by rfl) (heap_alloc_new _ _) (by rfl) (some ⟨b,k*2,none⟩) (S.length-k) _ ((S.drop k).flatMap encN) (by rfl) (drop_len S _) hsrc encN_one (by omega) (by omega) ?_;intro v1 w1 hown1 hg1 hat1;have hb2:Below wr.heap.size wr w1:=hb1.grown hg1 (by simp) (fun k' hk'=>by injection hk' with hk';omega);have hs2:=(hrow.src hb2).take (k:=k) (size:=2) (by omega);rw[encN_take] at hs2;clear hsrc hs1 hg1 hat1;have hb2s:=hb2.size)
      |(refine RX.wpl_apg (by rfl) elSh _ _ (by rfl) (some ⟨b,0,none⟩) k ((S.take k).flatMap encN) (by rfl) (fun e=>by cases e) (take_len S (by omega)) hs2 wr.heap.size (1+(S.length-k)) v1 _ (by rfl) hown1 (by omega) (one_ins _ _ _) (by omega) (by omega) ?_;intro v2 w2 hown2 hg2))
     have hb3:Below wr.heap.size wr w2:=hb2.grown hg2 hb2.size (fun k' hk'=>by cases hk')
     have HF:=zN (And.intro (ShRow.ins (base':=base) (by omega) hown2 (by have:=hB.size;omega)) (hB.trans (hb3.mono hB.size)))
     clear hown1 hown2 hg2 hb1 hb2 hb3 hs2 hrow
     go_wp2
     go_ret
     exact⟨_,rfl,_,HF.out.1,HE.out.1,HE.out.2,HF.out.2⟩
   ·obtain rfl:k=S.length:=by omega
    have HE:=HEND.out (.inl rfl)
    clear HEND
    have hBs:=hB.size
    have hnl:decide (S.length < S.length)=false:=zDf (by omega)
    cases p with
    |none=>
     obtain rfl:=HPN.out rfl
     have hS0:S.length=0:=by omega
     obtain rfl:S=[]:=List.eq_nil_of_length_eq_zero hS0
     clear hS0
     simp only[List.length_nil] at *
     have hb1:Below wr.heap.size wr (wr.alloc (.cells #[.int .i64 nd,.int .i64 wt] 123)):=(zBr _ _).alloc (Nat.le_refl _) _
     have hown1:(wr.alloc (.cells #[.int .i64 nd,.int .i64 wt] 123)).ownsRow wr.heap.size 123 2 (.slice (some ⟨wr.heap.size,0,none⟩) 1 1) 1 #[Value.int .i64 nd,.int .i64 wt].toList:=RX.own_new (heap_alloc_new _ _) rfl
     go_wp2_with (refine RX.wpl_apg (by rfl) elSh _ _ (by rfl) none 0 [] (by rfl) (fun _=>rfl) rfl (RX.SrcAt.none _ _ _) wr.heap.size 1 _ _ (by rfl) hown1 (by omega) (by intro u hu;simp only[List.mem_cons,List.not_mem_nil,or_false] at hu;rcases hu with rfl|rfl<;>rfl) (by omega) (by omega) ?_;intro v2 w2 hown2 hg2)
     have hb3:Below wr.heap.size wr w2:=hb1.grown hg2 (by simp) (fun k' hk'=>by cases hk')
     have HF:=zN (And.intro (ShRow.ins (S:=[]) (k:=0) (base':=base) (by omega) (by simpa using hown2) (by have:=hB.size;simp;omega)) (hB.trans (hb3.mono hB.size)))
     clear hown1 hown2 hg2 hb1 hb3
     go_wp2
     go_ret
     exact⟨_,rfl,_,HF.out.1,HE.out.1,rfl,HF.out.2⟩
    |some a=>
     by_cases hcc:cap=S.length
     ·obtain rfl:=hcc
      have hrow:=HR.out.kept hB
      have hb1:Below wr.heap.size wr (wr.alloc (.cells #[.int .i64 nd,.int .i64 wt] 123)):=(zBr _ _).alloc (Nat.le_refl _) _
      have hs1:=hrow.src hb1
      have hsrc:RX.SrcAt (wr.alloc (.cells #[.int .i64 nd,.int .i64 wt] 123)) (some a) 0 ((S.drop S.length).flatMap encN):=RX.SrcAt.none _ _ _
      go_wp2_with (first
       |(refine RX.wpl_apr (by rfl) elSh _ _ (by rfl) wr.heap.size #[.int .i64 nd,.int .i64 wt] (by rfl) (heap_alloc_new _ _) (by rfl) (some a) 0 _ ((S.drop S.length).flatMap encN) (by rfl) (by rw[drop_len,Nat.sub_self]) hsrc encN_one (by omega) (by omega) ?_;intro v1 w1 hown1 hg1 hat1;have hb2:Below wr.heap.size wr w1:=hb1.grown hg1 (by simp) (fun k' hk'=>by injection hk' with hk';omega);have hs2:=(hrow.src hb2).take (k:=S.length) (size:=2) (by omega);rw[encN_take] at hs2;clear hsrc hs1 hg1 hat1;have hb2s:=hb2.size)
       |(refine RX.wpl_apg (by rfl) elSh _ _ (by rfl) (some a) S.length ((S.take S.length).flatMap encN) (by rfl) (fun e=>by cases e) (take_len S (by omega)) hs2 wr.heap.size (1+0) v1 _ (by rfl) hown1 (by omega) (one_ins _ _ _) (by omega) (by omega) ?_;intro v2 w2 hown2 hg2))
      have hb3:Below wr.heap.size wr w2:=hb2.grown hg2 hb2.size (fun k' hk'=>by cases hk')
      have HF:=zN (And.intro (ShRow.ins (base':=base) (by omega) (by rw[Nat.sub_self];exact hown2) (by have:=hB.size;omega)) (hB.trans (hb3.mono hB.size)))
      clear hown1 hown2 hg2 hb1 hb2 hb3 hs2 hrow
      go_wp2
      go_ret
      exact⟨_,rfl,_,HF.out.1,HE.out.1,HE.out.2,HF.out.2⟩
     ·have hcc2:¬ S.length=cap:=fun e=>hcc e.symm
      have hrow:=HR.out.kept hB
      have hb1:Below wr.heap.size wr (wr.alloc (.cells #[.int .i64 nd,.int .i64 wt] 123)):=(zBr _ _).alloc (Nat.le_refl _) _
      have hs1:=hrow.src hb1
      go_wp2_with (first
       |(refine RX.wpl_apr (by rfl) elSh _ _ (by rfl) wr.heap.size #[.int .i64 nd,.int .i64 wt] (by rfl) (heap_alloc_new _ _) (by rfl) _ 0 _ ((S.drop S.length).flatMap encN) (by rfl) (by rw[drop_len,Nat.sub_self]) (RX.SrcAt.none _ _ _) encN_one (by omega) (by omega) ?_;intro v1 w1 hown1 hg1 hat1;have hb2:Below wr.heap.size wr w1:=hb1.grown hg1 (by simp) (fun k' hk'=>by injection hk' with hk';omega);have hs2:=(hrow.src hb2).take (k:=S.length) (size:=2) (by omega);rw[encN_take] at hs2;clear hs1 hg1 hat1;have hb2s:=hb2.size)
       |(refine RX.wpl_apg (by rfl) elSh _ _ (by rfl) (some a) S.length ((S.take S.length).flatMap encN) (by rfl) (fun e=>by cases e) (take_len S (by omega)) hs2 wr.heap.size (1+0) v1 _ (by rfl) hown1 (by omega) (one_ins _ _ _) (by omega) (by omega) ?_;intro v2 w2 hown2 hg2))
      have hb3:Below wr.heap.size wr w2:=hb2.grown hg2 hb2.size (fun k' hk'=>by cases hk')
      have HF:=zN (And.intro (ShRow.ins (base':=base) (by omega) (by rw[Nat.sub_self];exact hown2) (by have:=hB.size;omega)) (hB.trans (hb3.mono hB.size)))
      clear hown1 hown2 hg2 hb1 hb2 hb3 hs2 hrow
      go_wp2
      go_ret
      exact⟨_,rfl,_,HF.out.1,HE.out.1,HE.out.2,HF.out.2⟩
 ·obtain rfl:wt=0:=by omega
  have HR:=zN hrow
  clear hrow hpos hat hpn
  rw[if_neg hw0,List.append_nil]
  go_enter Tryz.func108,Tryz.ntmps108
  go_wp2
  go_ret
  exact⟨_,S,rfl,HR.out,hA,List.Perm.refl _,(by repeat (first|(with_reducible first|assumption|exact zBr _ _|refine zBs ?_ (by first|omega|(simp<;>omega)) _|refine zBa ?_ (by first|omega|(simp<;>omega)) _|apply zBd)|assumption))⟩
theorem corner_of {n:Nat} {p:Pl} (h1:1≤n) (h8:n≤8) (hn:n*hh n=840) (hp:p.Ok) {c:Pl × Nat} (hc:c∈locAll n p):Corner n c.1:=by
 obtain⟨a1,a2,i,j,a3,a4⟩:=loc_ok h1 hn hp c hc
 obtain⟨b1,b2,b3⟩:=atL_lat hn hp.f a3
 rw[←a4] at b1 b2
 refine⟨a1,?_,?_⟩
 ·unfold foundI;rw[b1]
 ·have:=(nodes_fit h1 h8).2;omega
def raw (n:Nat) (C:List (Pl × Nat)):List (Nat × Nat):=(C.filter (fun c=>decide (0 < c.2))).map (fun c=>(atL n c.1,c.2))
def ShInv (w:World) (base:Nat) (v:Value) (n:Nat) (C:List (Pl × Nat)):Prop:=∃ T,ShRow w base v T∧Asc T∧T.Perm (raw n C)∧T.length≤C.length
theorem ShInv.nil (w:World) (base n:Nat):ShInv w base (.slice none 0 0) n []:=⟨[],ShRow.nil _ _,List.Pairwise.nil,List.Perm.refl _,Nat.le_refl _⟩
theorem ShInv.kept {w w':World} {base n:Nat} {v:Value} {C:List (Pl × Nat)} (h:ShInv w base v n C) (hb:Below w.heap.size w w'):ShInv w' base v n C:=by
 obtain⟨T,h1,h2⟩:=h;exact⟨T,h1.kept hb,h2⟩
theorem share_corner (w:World) (base:Nat) (v:Value) (n:Nat) (C:List (Pl × Nat)) (q:Pl) (wt:Nat) (h:ShInv w base v n C) (hb0:base≤w.heap.size) (hl:C.length≤10) (hq:Corner n q) (hne:∀ c∈C,atL n c.1≠atL n q) (W:Int) (hW:W=wt) :
  Calls Tryz.prog 108 #[v,.int .i64 (atL n q:Int),.int .i64 W] w fun e w'=>∃ v',e=.returned v'∧ShInv w' base v' n (C ++ [(q,wt)])∧Below w.heap.size w w':=by
 subst hW
 obtain⟨T,t1,t2,t3,t4⟩:=h
 refine (rshare_any w base v T (atL n q) wt t1 hb0 t2 (fun y hy=>?_) (by omega) hq.le).mono ?_
 ·obtain⟨c,hc,rfl⟩:=List.mem_map.1 (t3.mem_iff.1 hy)
  exact hne c (List.mem_filter.1 hc).1
 ·rintro e w' ⟨v',T',rfl,r1,r2,r3,r4⟩
  have e1:raw n (C ++ [(q,wt)])=raw n C ++ if 0 < wt then [(atL n q,wt)] else []:=by
   unfold raw
   rw[List.filter_append,List.map_append]
   by_cases hw:0 < wt<;>simp[hw]
  refine⟨v',rfl,⟨T',r1,r2,by rw[e1];exact r3.trans (t3.append_right _),?_⟩,r4⟩
  have:=r3.length_eq
  rw[List.length_append] at this
  rw[List.length_append]
  simp only[List.length_cons,List.length_nil]
  split at this<;>simp at this<;>omega
theorem rlocate_any (n:Nat) (h1:1≤n) (h8:n≤8) (p:Pl) (hp:p.Ok) (w:World):Calls Tryz.prog 73 #[.int .i64 n,pv p] w fun e w'=>∃ v T,e=.returned (.tuple #[v,.int .i64 0])∧ShRow w' w.heap.size v T∧IsLoc n p T∧Below w.heap.size w w':=by
 have hn840:=hh_mul h1 h8
 have hh1:1≤hh n:=hh_pos h1 (by omega)
 have hrs:=rem_sum h1 hn840 hp
 have ra:=rem_le (a:=p.a) h1 hn840
 have rb:=rem_le (a:=p.b) h1 hn840
 have rc:=rem_le (a:=p.c) h1 hn840
 have ma:=Nat.mod_le p.a (hh n)
 have mb:=Nat.mod_le p.b (hh n)
 have mc:=Nat.mod_le p.c (hh n)
 have da:=Nat.div_add_mod p.a (hh n)
 have db:=Nat.div_add_mod p.b (hh n)
 have dc:=Nat.div_add_mod p.c (hh n)
 have hs:=hp.s
 have hh8:hh n≤840:=Nat.div_le_self _ _
 have HALL:Hid (locAll n p=if p.a % hh n*n+p.b % hh n*n+p.c % hh n*n=0 then [(p,840)]
  else if p.a % hh n*n+p.b % hh n*n+p.c % hh n*n=840 then
   [(⟨p.f,p.a-p.a % hh n+hh n,p.b-p.b % hh n,p.c-p.c % hh n⟩,p.a % hh n*n),(⟨p.f,p.a-p.a % hh n,p.b-p.b % hh n+hh n,p.c-p.c % hh n⟩,p.b % hh n*n),(⟨p.f,p.a-p.a % hh n,p.b-p.b % hh n,p.c-p.c % hh n+hh n⟩,p.c % hh n*n)]
  else
   [(⟨p.f,p.a-p.a % hh n,p.b-p.b % hh n+hh n,p.c-p.c % hh n+hh n⟩,840-p.a % hh n*n),(⟨p.f,p.a-p.a % hh n+hh n,p.b-p.b % hh n,p.c-p.c % hh n+hh n⟩,840-p.b % hh n*n),(⟨p.f,p.a-p.a % hh n+hh n,p.b-p.b % hh n+hh n,p.c-p.c % hh n⟩,840-p.c % hh n*n)]):=zN rfl
 have HDI:=zN (loc_distinct h1 (by omega) hn840 hp)
 have HP:=zN hp
 have HN840:=zN hn840
 have hV:validB p.f p.a p.b p.c=true:=zDt (Ok.valid hp)
 have hf20:=hp.f
 have hq:(840:Int).tdiv n=((hh n:Nat):Int):=by
  rw[Int.tdiv_eq_ediv_of_nonneg (by omega)];rfl
 have hn0:((n:Int) == 0)=false:=by rw[beq_eq_false_iff_ne];omega
 obtain⟨c,hcE,hc0⟩:∃ c:Int,countI n=c∧(c == 0)=false:=⟨_,rfl,(countI_nat h1 h8).2.1⟩
 have HCE:=zN hcE
 clear hcE hp hn840
 obtain⟨h,hhe⟩:∃ h,h=hh n:=⟨_,rfl⟩
 rw[←hhe] at hq HALL hh1 hh8 hrs ra rb rc ma mb mc da db dc
 have ta:(p.a:Int).tdiv (h:Int)=((p.a / h:Nat):Int):=by rw[Int.tdiv_eq_ediv_of_nonneg (by omega)];rfl
 have tb:(p.b:Int).tdiv (h:Int)=((p.b / h:Nat):Int):=by rw[Int.tdiv_eq_ediv_of_nonneg (by omega)];rfl
 have tc:(p.c:Int).tdiv (h:Int)=((p.c / h:Nat):Int):=by rw[Int.tdiv_eq_ediv_of_nonneg (by omega)];rfl
 have ea0:((p.a / h:Nat):Int)*(h:Int)=((p.a-p.a % h:Nat):Int):=by rw[←Int.natCast_mul,Nat.mul_comm];congr 1;omega
 have eb0:((p.b / h:Nat):Int)*(h:Int)=((p.b-p.b % h:Nat):Int):=by rw[←Int.natCast_mul,Nat.mul_comm];congr 1;omega
 have ec0:((p.c / h:Nat):Int)*(h:Int)=((p.c-p.c % h:Nat):Int):=by rw[←Int.natCast_mul,Nat.mul_comm];congr 1;omega
 have la:p.a / h≤840:=Nat.le_trans (Nat.div_le_self _ _) (by omega)
 have lb:p.b / h≤840:=Nat.le_trans (Nat.div_le_self _ _) (by omega)
 have lc:p.c / h≤840:=Nat.le_trans (Nat.div_le_self _ _) (by omega)
 clear da db dc
 generalize p.a / h=ja at *
 generalize p.b / h=jb at *
 generalize p.c / h=jc at *
 generalize p.a % h=xa at *
 generalize p.b % h=xb at *
 generalize p.c % h=xc at *
 obtain⟨a0,ha0⟩:∃ a0,a0=p.a-xa:=⟨_,rfl⟩
 obtain⟨b0,hb0⟩:∃ b0,b0=p.b-xb:=⟨_,rfl⟩
 obtain⟨c0',hc0'⟩:∃ c0,c0=p.c-xc:=⟨_,rfl⟩
 rw[←ha0,←hb0,←hc0'] at HALL
 rw[←ha0] at ea0
 rw[←hb0] at eb0
 rw[←hc0'] at ec0
 have sa:(p.a:Int)-(a0:Int)=(xa:Int):=by omega
 have sb:(p.b:Int)-(b0:Int)=(xb:Int):=by omega
 have sc:(p.c:Int)-(c0':Int)=(xc:Int):=by omega
 have ba:a0≤p.a:=by omega
 have bb:b0≤p.b:=by omega
 have bc:c0'≤p.c:=by omega
 clear ha0 hb0 hc0'
 have ea:(n:Int)*(xa:Int)=((xa*n:Nat):Int):=by rw[Int.natCast_mul,Int.mul_comm]
 have eb:(n:Int)*(xb:Int)=((xb*n:Nat):Int):=by rw[Int.natCast_mul,Int.mul_comm]
 have ec:(n:Int)*(xc:Int)=((xc*n:Nat):Int):=by rw[Int.natCast_mul,Int.mul_comm]
 generalize xa*n=x at *
 generalize xb*n=y at *
 generalize xc*n=z at *
 have hhb:((h:Int) == 0)=false:=by rw[beq_eq_false_iff_ne];omega
 have hpv:Hid (pv p=.agg #[.int .i64 p.f,.int .i64 p.a,.int .i64 p.b,.int .i64 p.c]):=zN rfl
 rw[hpv.out]
 clear hhe
 go_enter Tryz.func73,Tryz.ntmps73
 go_wp2_with fail
 refine (rcount_any n _).mono ?_
 rintro e w1 ⟨rfl,rfl⟩
 rw[HCE.out]
 go_wp2_with fail
 refine (rvalid_any p.f p.a p.b p.c _).mono ?_
 rintro e w1 ⟨rfl,hb1⟩
 rw[hV]
 have c0:w1.cell? ⟨w.heap.size,0,none⟩=some (.int .i64 p.f):=zP hb1 (by simp[zO,zJ,zQ])
 have c1:w1.cell? ⟨w.heap.size,1,none⟩=some (.int .i64 p.a):=zP hb1 (by simp[zO,zJ,zQ])
 have c2:w1.cell? ⟨w.heap.size,2,none⟩=some (.int .i64 p.b):=zP hb1 (by simp[zO,zJ,zQ])
 have c3:w1.cell? ⟨w.heap.size,3,none⟩=some (.int .i64 p.c):=zP hb1 (by simp[zO,zJ,zQ])
 have hB0:Below w.heap.size w (w.alloc (.cells #[.int .i64 p.f,.int .i64 p.a,.int .i64 p.b,.int .i64 p.c] 41)):=(by repeat (first|(with_reducible first|assumption|exact zBr _ _|refine zBs ?_ (by first|omega|(simp<;>omega)) _|refine zBa ?_ (by first|omega|(simp<;>omega)) _|apply zBd)|assumption))
 have hB:=hB0.trans (hb1.mono hB0.size)
 clear hB0 hb1
 go_wp2_with fail
 refine (rnodes_any n h1 h8 _).mono ?_
 rintro e ws0 ⟨v0,rfl,hrow,hb2⟩
 replace c0:=zP hb2 c0
 replace c1:=zP hb2 c1
 replace c2:=zP hb2 c2
 replace c3:=zP hb2 c3
 replace hB:=hB.trans (hb2.mono hB.size)
 clear hb2
 obtain⟨hl0,hl1⟩:=nodes_fit h1 h8
 obtain⟨pp,cap,b,rfl,hcap,hpos,hat⟩:=hrow.form
 obtain⟨rfl,_,hblt⟩:=hpos hl0
 have PL:=zN hat
 clear hat hpos hrow
 have HL:=zN (And.intro hl0 hl1)
 clear hl0 hl1
 have hxyz:(x:Int)+(y:Int)+(z:Int)=((x+y+z:Nat):Int):=by omega
 generalize hxs:x+y+z=s at hxyz hrs HALL
 have HXS:=zN hxs
 clear hxs
 go_wp2
 refine RX.region RX.fN (fun w'=>w'=_) (by kernel_rfl) (by kernel_rfl) rfl (fun OPS HO QR hQR=>?_)
 repeat (refine zeX (fun R hR=>?_);(first|refine zaX (by first|rfl|(rw[HO.out];rfl)) (by simp only[zA,zB,zC,zD];rfl) ?_|refine zbX (by first|rfl|(rw[HO.out];rfl)) rfl (by first|exact .inl rfl|exact .inr rfl) (by simp only[zE,zF,zG,zH];rfl) (by simp only[zA,zB,zC,zD];rfl) ?_|refine zcX (by first|rfl|(rw[HO.out];rfl)) rfl rfl (by simp only[zE,zF,zG,zH];rfl) (by simp only[zA,zB,zC,zD];rfl) ?_|(refine zdX (by first|rfl|(rw[HO.out];rfl)) rfl rfl rfl ?_;apply zEx;apply zEx;refine⟨fun w' hS K hK=>?_,?_,?_⟩;(focus (subst hS;go_wp2;exact hK _ _ (by simp only[zl,zG,zH];first|exact zf (by omega)|exact zg (by omega)|exact zh (by omega)|exact zi (by omega)|exact zj (by omega)|exact zk (by omega)|exact RX.bneB _|rfl) rfl));(focus (simp only[zA,zB,zC,zD];rfl))));refine hR _ _ ?_;clear hR R)
 refine RX.wpL_nil (hQR _ _ rfl ?_);clear hQR QR HO OPS
 go_wp2
 refine RX.region RX.fN (fun w'=>w'=_) (by kernel_rfl) (by kernel_rfl) rfl (fun OPS HO QR hQR=>?_)
 repeat (refine zeX (fun R hR=>?_);(first|refine zaX (by first|rfl|(rw[HO.out];rfl)) (by simp only[zA,zB,zC,zD];rfl) ?_|refine zbX (by first|rfl|(rw[HO.out];rfl)) rfl (by first|exact .inl rfl|exact .inr rfl) (by simp only[zE,zF,zG,zH];rfl) (by simp only[zA,zB,zC,zD];rfl) ?_|refine zcX (by first|rfl|(rw[HO.out];rfl)) rfl rfl (by simp only[zE,zF,zG,zH];rfl) (by simp only[zA,zB,zC,zD];rfl) ?_|(refine zdX (by first|rfl|(rw[HO.out];rfl)) rfl rfl rfl ?_;apply zEx;apply zEx;refine⟨fun w' hS K hK=>?_,?_,?_⟩;(focus (subst hS;go_wp2;exact hK _ _ (by simp only[zl,zG,zH];first|exact zf (by omega)|exact zg (by omega)|exact zh (by omega)|exact zi (by omega)|exact zj (by omega)|exact zk (by omega)|exact RX.bneB _|rfl) rfl));(focus (simp only[zA,zB,zC,zD];rfl))));refine hR _ _ ?_;clear hR R)
 refine RX.wpL_nil (hQR _ _ rfl ?_);clear hQR QR HO OPS
 have hS:Below ws0.heap.size ws0 ws0.drew.drew:=(by repeat (first|(with_reducible first|assumption|exact zBr _ _|refine zBs ?_ (by first|omega|(simp<;>omega)) _|refine zBa ?_ (by first|omega|(simp<;>omega)) _|apply zBd)|assumption))
 rcases hrs with rfl|rfl|rfl
 ·have HALL:Hid (locAll n p=[(p,840)]):=zN (by rw[HALL.out,if_pos rfl])
  obtain⟨C0,hC0⟩:∃ C:List (Pl × Nat),C=[]:=⟨_,rfl⟩
  obtain⟨C1,hC1⟩:∃ C:List (Pl × Nat),C=[(p,840)]:=⟨_,rfl⟩
  have CO0:Hid (Corner n p):=zN (corner_of h1 h8 HN840.out HP.out (show (p,840)∈locAll n p by rw[HALL.out];simp))
  have DI0:Hid (∀ c∈C0,atL n c.1≠atL n p):=zN (by rw[hC0];have h9:=HDI.out;rw[HALL.out] at h9;simp only[List.pairwise_cons,List.mem_cons,List.not_mem_nil,or_false,forall_eq_or_imp,forall_eq] at h9 ⊢;first|exact fun c hc=>absurd hc (by simp)|simp_all)
  have LEN0:C0.length≤10:=by rw[hC0];simp
  have HC0:Hid (C0 ++ [(p,840)]=C1):=zN (by rw[hC0,hC1];rfl)
  have INV0:Hid (ShInv ws0.drew.drew w.heap.size (.slice none 0 0) n C0):=zN (by rw[hC0];exact ShInv.nil _ _ _)
  have HFIN:Hid (locAll n p=C1):=zN (by rw[HALL.out,hC1])
  clear hC0 hC1
  clear HALL HDI
  go_wp2_with fail
  refine (rat_corner _ n b cap h1 h8 p CO0.out (PL.out.kept (hS.block _ hblt)) hcap _ _ (by rfl) (by rfl)).mono ?_
  rintro e wa ⟨rfl,hba⟩
  replace c0:=zP hba c0
  replace c1:=zP hba c1
  replace c2:=zP hba c2
  replace c3:=zP hba c3
  have hinv:=INV0.out.kept hba
  replace hS:=hS.trans (hba.mono hS.size)
  clear hba INV0
  have INVa:=zN hinv
  clear hinv
  go_wp2_with fail
  refine (share_corner _ w.heap.size _ n C0 p 840 INVa.out (Nat.le_trans hB.size hS.size) LEN0 CO0.out DI0.out _ (by rfl)).mono ?_
  rintro e ws ⟨v',rfl,hinv,hbs⟩
  replace c0:=zP hbs c0
  replace c1:=zP hbs c1
  replace c2:=zP hbs c2
  replace c3:=zP hbs c3
  replace hS:=hS.trans (hbs.mono hS.size)
  have INV1:=zN (HC0.out ▸ hinv)
  clear hbs hinv INVa
  have HF:=zN (And.intro INV1.out (hB.trans (hS.mono hB.size)))
  clear INV1
  go_wp2
  go_ret2
  obtain⟨T,t1,t2,t3,_⟩:=HF.out.1
  exact⟨_,T,rfl,t1,⟨by unfold locRaw;rw[HFIN.out];exact t3,t2⟩,HF.out.2⟩
 ·have HALL:Hid (locAll n p=[(⟨p.f,a0+h,b0,c0'⟩,x),(⟨p.f,a0,b0+h,c0'⟩,y),(⟨p.f,a0,b0,c0'+h⟩,z)]):=zN (by rw[HALL.out,if_neg (by omega),if_pos rfl])
  obtain⟨C0,hC0⟩:∃ C:List (Pl × Nat),C=[]:=⟨_,rfl⟩
  obtain⟨C1,hC1⟩:∃ C:List (Pl × Nat),C=[(⟨p.f,a0+h,b0,c0'⟩,x)]:=⟨_,rfl⟩
  obtain⟨C2,hC2⟩:∃ C:List (Pl × Nat),C=[(⟨p.f,a0+h,b0,c0'⟩,x),(⟨p.f,a0,b0+h,c0'⟩,y)]:=⟨_,rfl⟩
  obtain⟨C3,hC3⟩:∃ C:List (Pl × Nat),C=[(⟨p.f,a0+h,b0,c0'⟩,x),(⟨p.f,a0,b0+h,c0'⟩,y),(⟨p.f,a0,b0,c0'+h⟩,z)]:=⟨_,rfl⟩
  have CO0:Hid (Corner n ⟨p.f,a0+h,b0,c0'⟩):=zN (corner_of h1 h8 HN840.out HP.out (show (⟨p.f,a0+h,b0,c0'⟩,x)∈locAll n p by rw[HALL.out];simp))
  have DI0:Hid (∀ c∈C0,atL n c.1≠atL n ⟨p.f,a0+h,b0,c0'⟩):=zN (by rw[hC0];have h9:=HDI.out;rw[HALL.out] at h9;simp only[List.pairwise_cons,List.mem_cons,List.not_mem_nil,or_false,forall_eq_or_imp,forall_eq] at h9 ⊢;first|exact fun c hc=>absurd hc (by simp)|simp_all)
  have LEN0:C0.length≤10:=by rw[hC0];simp
  have HC0:Hid (C0 ++ [(⟨p.f,a0+h,b0,c0'⟩,x)]=C1):=zN (by rw[hC0,hC1];rfl)
  have CO1:Hid (Corner n ⟨p.f,a0,b0+h,c0'⟩):=zN (corner_of h1 h8 HN840.out HP.out (show (⟨p.f,a0,b0+h,c0'⟩,y)∈locAll n p by rw[HALL.out];simp))
  have DI1:Hid (∀ c∈C1,atL n c.1≠atL n ⟨p.f,a0,b0+h,c0'⟩):=zN (by rw[hC1];have h9:=HDI.out;rw[HALL.out] at h9;simp only[List.pairwise_cons,List.mem_cons,List.not_mem_nil,or_false,forall_eq_or_imp,forall_eq] at h9 ⊢;first|exact fun c hc=>absurd hc (by simp)|simp_all)
  have LEN1:C1.length≤10:=by rw[hC1];simp
  have HC1:Hid (C1 ++ [(⟨p.f,a0,b0+h,c0'⟩,y)]=C2):=zN (by rw[hC1,hC2];rfl)
  have CO2:Hid (Corner n ⟨p.f,a0,b0,c0'+h⟩):=zN (corner_of h1 h8 HN840.out HP.out (show (⟨p.f,a0,b0,c0'+h⟩,z)∈locAll n p by rw[HALL.out];simp))
  have DI2:Hid (∀ c∈C2,atL n c.1≠atL n ⟨p.f,a0,b0,c0'+h⟩):=zN (by rw[hC2];have h9:=HDI.out;rw[HALL.out] at h9;simp only[List.pairwise_cons,List.mem_cons,List.not_mem_nil,or_false,forall_eq_or_imp,forall_eq] at h9 ⊢;first|exact fun c hc=>absurd hc (by simp)|simp_all)
  have LEN2:C2.length≤10:=by rw[hC2];simp
  have HC2:Hid (C2 ++ [(⟨p.f,a0,b0,c0'+h⟩,z)]=C3):=zN (by rw[hC2,hC3];rfl)
  have INV0:Hid (ShInv ws0.drew.drew w.heap.size (.slice none 0 0) n C0):=zN (by rw[hC0];exact ShInv.nil _ _ _)
  have HFIN:Hid (locAll n p=C3):=zN (by rw[HALL.out,hC3])
  clear hC0 hC1 hC2 hC3
  clear HALL HDI
  go_wp2_with fail
  refine (rat_corner _ n b cap h1 h8 ⟨p.f,a0+h,b0,c0'⟩ CO0.out (PL.out.kept (hS.block _ hblt)) hcap _ _ (by dsimp only;omega) (by rfl)).mono ?_
  rintro e wa ⟨rfl,hba⟩
  replace c0:=zP hba c0
  replace c1:=zP hba c1
  replace c2:=zP hba c2
  replace c3:=zP hba c3
  have hinv:=INV0.out.kept hba
  replace hS:=hS.trans (hba.mono hS.size)
  clear hba INV0
  have INVa:=zN hinv
  clear hinv
  go_wp2_with fail
  refine (share_corner _ w.heap.size _ n C0 ⟨p.f,a0+h,b0,c0'⟩ x INVa.out (Nat.le_trans hB.size hS.size) LEN0 CO0.out DI0.out _ (by rfl)).mono ?_
  rintro e ws ⟨v',rfl,hinv,hbs⟩
  replace c0:=zP hbs c0
  replace c1:=zP hbs c1
  replace c2:=zP hbs c2
  replace c3:=zP hbs c3
  replace hS:=hS.trans (hbs.mono hS.size)
  have INV1:=zN (HC0.out ▸ hinv)
  clear hbs hinv INVa
  go_wp2_with fail
  refine (rat_corner _ n b cap h1 h8 ⟨p.f,a0,b0+h,c0'⟩ CO1.out (PL.out.kept (hS.block _ hblt)) hcap _ _ (by rfl) (by dsimp only;omega)).mono ?_
  rintro e wa ⟨rfl,hba⟩
  replace c0:=zP hba c0
  replace c1:=zP hba c1
  replace c2:=zP hba c2
  replace c3:=zP hba c3
  have hinv:=INV1.out.kept hba
  replace hS:=hS.trans (hba.mono hS.size)
  clear hba INV1
  have INVa:=zN hinv
  clear hinv
  go_wp2_with fail
  refine (share_corner _ w.heap.size _ n C1 ⟨p.f,a0,b0+h,c0'⟩ y INVa.out (Nat.le_trans hB.size hS.size) LEN1 CO1.out DI1.out _ (by rfl)).mono ?_
  rintro e ws ⟨v',rfl,hinv,hbs⟩
  replace c0:=zP hbs c0
  replace c1:=zP hbs c1
  replace c2:=zP hbs c2
  replace c3:=zP hbs c3
  replace hS:=hS.trans (hbs.mono hS.size)
  have INV2:=zN (HC1.out ▸ hinv)
  clear hbs hinv INVa
  go_wp2_with fail
  refine (rat_corner _ n b cap h1 h8 ⟨p.f,a0,b0,c0'+h⟩ CO2.out (PL.out.kept (hS.block _ hblt)) hcap _ _ (by rfl) (by rfl)).mono ?_
  rintro e wa ⟨rfl,hba⟩
  replace c0:=zP hba c0
  replace c1:=zP hba c1
  replace c2:=zP hba c2
  replace c3:=zP hba c3
  have hinv:=INV2.out.kept hba
  replace hS:=hS.trans (hba.mono hS.size)
  clear hba INV2
  have INVa:=zN hinv
  clear hinv
  go_wp2_with fail
  refine (share_corner _ w.heap.size _ n C2 ⟨p.f,a0,b0,c0'+h⟩ z INVa.out (Nat.le_trans hB.size hS.size) LEN2 CO2.out DI2.out _ (by rfl)).mono ?_
  rintro e ws ⟨v',rfl,hinv,hbs⟩
  replace c0:=zP hbs c0
  replace c1:=zP hbs c1
  replace c2:=zP hbs c2
  replace c3:=zP hbs c3
  replace hS:=hS.trans (hbs.mono hS.size)
  have INV3:=zN (HC2.out ▸ hinv)
  clear hbs hinv INVa
  have HF:=zN (And.intro INV3.out (hB.trans (hS.mono hB.size)))
  clear INV3
  go_wp2
  go_ret2
  obtain⟨T,t1,t2,t3,_⟩:=HF.out.1
  exact⟨_,T,rfl,t1,⟨by unfold locRaw;rw[HFIN.out];exact t3,t2⟩,HF.out.2⟩
 ·have HALL:Hid (locAll n p=[(⟨p.f,a0,b0+h,c0'+h⟩,840-x),(⟨p.f,a0+h,b0,c0'+h⟩,840-y),(⟨p.f,a0+h,b0+h,c0'⟩,840-z)]):=zN (by rw[HALL.out,if_neg (by omega),if_neg (by omega)])
  obtain⟨C0,hC0⟩:∃ C:List (Pl × Nat),C=[]:=⟨_,rfl⟩
  obtain⟨C1,hC1⟩:∃ C:List (Pl × Nat),C=[(⟨p.f,a0,b0+h,c0'+h⟩,(840-x))]:=⟨_,rfl⟩
  obtain⟨C2,hC2⟩:∃ C:List (Pl × Nat),C=[(⟨p.f,a0,b0+h,c0'+h⟩,(840-x)),(⟨p.f,a0+h,b0,c0'+h⟩,(840-y))]:=⟨_,rfl⟩
  obtain⟨C3,hC3⟩:∃ C:List (Pl × Nat),C=[(⟨p.f,a0,b0+h,c0'+h⟩,(840-x)),(⟨p.f,a0+h,b0,c0'+h⟩,(840-y)),(⟨p.f,a0+h,b0+h,c0'⟩,(840-z))]:=⟨_,rfl⟩
  have CO0:Hid (Corner n ⟨p.f,a0,b0+h,c0'+h⟩):=zN (corner_of h1 h8 HN840.out HP.out (show (⟨p.f,a0,b0+h,c0'+h⟩,(840-x))∈locAll n p by rw[HALL.out];simp))
  have DI0:Hid (∀ c∈C0,atL n c.1≠atL n ⟨p.f,a0,b0+h,c0'+h⟩):=zN (by rw[hC0];have h9:=HDI.out;rw[HALL.out] at h9;simp only[List.pairwise_cons,List.mem_cons,List.not_mem_nil,or_false,forall_eq_or_imp,forall_eq] at h9 ⊢;first|exact fun c hc=>absurd hc (by simp)|simp_all)
  have LEN0:C0.length≤10:=by rw[hC0];simp
  have HC0:Hid (C0 ++ [(⟨p.f,a0,b0+h,c0'+h⟩,(840-x))]=C1):=zN (by rw[hC0,hC1];rfl)
  have CO1:Hid (Corner n ⟨p.f,a0+h,b0,c0'+h⟩):=zN (corner_of h1 h8 HN840.out HP.out (show (⟨p.f,a0+h,b0,c0'+h⟩,(840-y))∈locAll n p by rw[HALL.out];simp))
  have DI1:Hid (∀ c∈C1,atL n c.1≠atL n ⟨p.f,a0+h,b0,c0'+h⟩):=zN (by rw[hC1];have h9:=HDI.out;rw[HALL.out] at h9;simp only[List.pairwise_cons,List.mem_cons,List.not_mem_nil,or_false,forall_eq_or_imp,forall_eq] at h9 ⊢;first|exact fun c hc=>absurd hc (by simp)|simp_all)
  have LEN1:C1.length≤10:=by rw[hC1];simp
  have HC1:Hid (C1 ++ [(⟨p.f,a0+h,b0,c0'+h⟩,(840-y))]=C2):=zN (by rw[hC1,hC2];rfl)
  have CO2:Hid (Corner n ⟨p.f,a0+h,b0+h,c0'⟩):=zN (corner_of h1 h8 HN840.out HP.out (show (⟨p.f,a0+h,b0+h,c0'⟩,(840-z))∈locAll n p by rw[HALL.out];simp))
  have DI2:Hid (∀ c∈C2,atL n c.1≠atL n ⟨p.f,a0+h,b0+h,c0'⟩):=zN (by rw[hC2];have h9:=HDI.out;rw[HALL.out] at h9;simp only[List.pairwise_cons,List.mem_cons,List.not_mem_nil,or_false,forall_eq_or_imp,forall_eq] at h9 ⊢;first|exact fun c hc=>absurd hc (by simp)|simp_all)
  have LEN2:C2.length≤10:=by rw[hC2];simp
  have HC2:Hid (C2 ++ [(⟨p.f,a0+h,b0+h,c0'⟩,(840-z))]=C3):=zN (by rw[hC2,hC3];rfl)
  have INV0:Hid (ShInv ws0.drew.drew w.heap.size (.slice none 0 0) n C0):=zN (by rw[hC0];exact ShInv.nil _ _ _)
  have HFIN:Hid (locAll n p=C3):=zN (by rw[HALL.out,hC3])
  clear hC0 hC1 hC2 hC3
  clear HALL HDI
  go_wp2_with fail
  refine (rat_corner _ n b cap h1 h8 ⟨p.f,a0,b0+h,c0'+h⟩ CO0.out (PL.out.kept (hS.block _ hblt)) hcap _ _ (by rfl) (by dsimp only;omega)).mono ?_
  rintro e wa ⟨rfl,hba⟩
  replace c0:=zP hba c0
  replace c1:=zP hba c1
  replace c2:=zP hba c2
  replace c3:=zP hba c3
  have hinv:=INV0.out.kept hba
  replace hS:=hS.trans (hba.mono hS.size)
  clear hba INV0
  have INVa:=zN hinv
  clear hinv
  go_wp2_with fail
  refine (share_corner _ w.heap.size _ n C0 ⟨p.f,a0,b0+h,c0'+h⟩ (840-x) INVa.out (Nat.le_trans hB.size hS.size) LEN0 CO0.out DI0.out _ (by omega)).mono ?_
  rintro e ws ⟨v',rfl,hinv,hbs⟩
  replace c0:=zP hbs c0
  replace c1:=zP hbs c1
  replace c2:=zP hbs c2
  replace c3:=zP hbs c3
  replace hS:=hS.trans (hbs.mono hS.size)
  have INV1:=zN (HC0.out ▸ hinv)
  clear hbs hinv INVa
  go_wp2_with fail
  refine (rat_corner _ n b cap h1 h8 ⟨p.f,a0+h,b0,c0'+h⟩ CO1.out (PL.out.kept (hS.block _ hblt)) hcap _ _ (by dsimp only;omega) (by rfl)).mono ?_
  rintro e wa ⟨rfl,hba⟩
  replace c0:=zP hba c0
  replace c1:=zP hba c1
  replace c2:=zP hba c2
  replace c3:=zP hba c3
  have hinv:=INV1.out.kept hba
  replace hS:=hS.trans (hba.mono hS.size)
  clear hba INV1
  have INVa:=zN hinv
  clear hinv
  go_wp2_with fail
  refine (share_corner _ w.heap.size _ n C1 ⟨p.f,a0+h,b0,c0'+h⟩ (840-y) INVa.out (Nat.le_trans hB.size hS.size) LEN1 CO1.out DI1.out _ (by omega)).mono ?_
  rintro e ws ⟨v',rfl,hinv,hbs⟩
  replace c0:=zP hbs c0
  replace c1:=zP hbs c1
  replace c2:=zP hbs c2
  replace c3:=zP hbs c3
  replace hS:=hS.trans (hbs.mono hS.size)
  have INV2:=zN (HC1.out ▸ hinv)
  clear hbs hinv INVa
  go_wp2_with fail
  refine (rat_corner _ n b cap h1 h8 ⟨p.f,a0+h,b0+h,c0'⟩ CO2.out (PL.out.kept (hS.block _ hblt)) hcap _ _ (by dsimp only;omega) (by dsimp only;omega)).mono ?_
  rintro e wa ⟨rfl,hba⟩
  replace c0:=zP hba c0
  replace c1:=zP hba c1
  replace c2:=zP hba c2
  replace c3:=zP hba c3
  have hinv:=INV2.out.kept hba
  replace hS:=hS.trans (hba.mono hS.size)
  clear hba INV2
  have INVa:=zN hinv
  clear hinv
  go_wp2_with fail
  refine (share_corner _ w.heap.size _ n C2 ⟨p.f,a0+h,b0+h,c0'⟩ (840-z) INVa.out (Nat.le_trans hB.size hS.size) LEN2 CO2.out DI2.out _ (by omega)).mono ?_
  rintro e ws ⟨v',rfl,hinv,hbs⟩
  replace c0:=zP hbs c0
  replace c1:=zP hbs c1
  replace c2:=zP hbs c2
  replace c3:=zP hbs c3
  replace hS:=hS.trans (hbs.mono hS.size)
  have INV3:=zN (HC2.out ▸ hinv)
  clear hbs hinv INVa
  have HF:=zN (And.intro INV3.out (hB.trans (hS.mono hB.size)))
  clear INV3
  go_wp2
  go_ret2
  obtain⟨T,t1,t2,t3,_⟩:=HF.out.1
  exact⟨_,T,rfl,t1,⟨by unfold locRaw;rw[HFIN.out];exact t3,t2⟩,HF.out.2⟩
theorem rnearest_any (n:Nat) (h1:1≤n) (h8:n≤8) (p:Pl) (hp:p.Ok) (w:World):Calls Tryz.prog 49 #[.int .i64 n,pv p] w fun e w'=>∃ T,e=.returned (.tuple #[.int .i64 ((best T).1:Int),.int .i64 0])∧IsLoc n p T∧Below w.heap.size w w':=by
 have hn840:=hh_mul h1 h8
 have HNE:=zN (loc_ne h1 hn840 hp)
 have HP:=zN hp
 have hpv:Hid (pv p=.agg #[.int .i64 p.f,.int .i64 p.a,.int .i64 p.b,.int .i64 p.c]):=zN rfl
 rw[hpv.out]
 clear hn840 hp
 go_enter Tryz.func49,Tryz.ntmps49
 go_wp2_with fail
 rw[←hpv.out]
 refine (rlocate_any n h1 h8 p HP.out _).mono ?_
 rintro e w1 ⟨v,T,rfl,hrow,hloc,hb1⟩
 have hT0:0 < T.length:=by
  have:=hloc.1.length_eq
  have h9:=HNE.out
  rw[this];exact List.length_pos_iff.2 h9
 have hT3:T.length≤3:=by
  rw[hloc.1.length_eq];unfold locRaw
  rw[List.length_map]
  refine Nat.le_trans (List.length_filter_le _ _) ?_
  unfold locAll;dsimp only
  split
  ·simp
  ·split<;>simp
 have hTw:∀ x∈T,x.2≤840:=fun x hx=>(loc_nodes h1 (hh_mul h1 h8) HP.out x (hloc.1.mem_iff.1 hx)).2.2
 obtain⟨q,cap,b,rfl,hcap,hpos,hat,_⟩:=hrow.form
 obtain⟨rfl,_,hblt⟩:=hpos hT0
 have HW:=zN hTw
 have HB1:Hid (Below w.heap.size w w1):=zN (Below.trans (by repeat (first|(with_reducible first|assumption|exact zBr _ _|refine zBs ?_ (by first|omega|(simp<;>omega)) _|refine zBa ?_ (by first|omega|(simp<;>omega)) _|apply zBd)|assumption)) (hb1.mono (by simp)))
 have HLOC:=zN hloc
 have HAT:=zN hat
 have hz:w.heap.size≤w1.heap.size:=HB1.out.size
 clear hTw hloc hrow hpos hb1 hat
 obtain⟨d0,d1⟩:=HAT.out 0 hT0
 rw[Nat.zero_mul,Nat.zero_add] at d1
 rw[Nat.zero_mul] at d0
 obtain⟨s0,hs0⟩:∃ s,s=T[0]:=⟨_,rfl⟩
 rw[←hs0] at d0 d1
 have HB0:Hid (bestL T s0=best T∧s0∈T):=zN (by
  rw[hs0];refine⟨?_,List.getElem_mem _⟩
  cases T with
  |nil=>simp at hT0
  |cons a l=>
   show bestL (a :: l) a=bestL l a
   simp[bestL])
 clear hs0
 have HS0:Hid (bestL (T.take 0) s0=s0∧s0∈T):=zN ⟨by simp[bestL],HB0.out.2⟩
 obtain⟨a0,a1⟩:=s0
 dsimp only at d0 d1
 go_wp2
 go_loopw [25] (fun i wr=>∃ (k:Nat) (m:Nat × Nat),k≤T.length∧i=.int .i64 k∧Hid (bestL (T.take k) (a0,a1)=m∧m∈T)∧wr.cell? ⟨w1.heap.size,0,none⟩=some (.int .i64 (m.1:Int))∧wr.cell? ⟨w1.heap.size,1,none⟩=some (.int .i64 (m.2:Int))∧wr.frozen? ⟨w1.heap.size,0,none⟩=false∧wr.frozen? ⟨w1.heap.size,1,none⟩=false∧Below w1.heap.size w1 wr) (fun i _=>T.length-(intOf i).toNat)
 case atStart=>exact⟨0,(a0,a1),Nat.zero_le _,rfl,HS0,(by simp[zO,zJ,zQ]),(by simp[zO,zJ,zQ]),by simp[RX.frozen_alloc],by simp[RX.frozen_alloc],(by repeat (first|(with_reducible first|assumption|exact zBr _ _|refine zBs ?_ (by first|omega|(simp<;>omega)) _|refine zBa ?_ (by first|omega|(simp<;>omega)) _|apply zBd)|assumption))⟩
 case round=>
  obtain⟨k,m,hk,rfl,HM,m0,m1,f0,f1,hb⟩:=hrel
  have hwl:w1.heap.size < wr.heap.size:=zM _ _ m0
  have hne:¬ w1.heap.size=wr.heap.size:=by omega
  by_cases hlt:k < T.length
  ·have hdk:decide ((k:Int) < (T.length:Int))=true:=zDt (by omega)
   have hdk2:decide (k < T.length)=true:=zDt hlt
   obtain⟨c0,c1⟩:=HAT.out k hlt
   have HX:=zN (List.getElem_mem hlt)
   have HT:Hid (bestL (T.take (k+1)) (a0,a1)=if m.2 < T[k].2 then T[k] else m):=zN (by
    have h:=bestL_take hlt (a0,a1)
    rw[HM.out.1] at h
    exact h)
   obtain⟨x,hx⟩:∃ x,x=T[k]:=⟨_,rfl⟩
   rw[←hx] at c0 c1 HX HT
   clear hx
   have x2:=HW.out x HX.out
   have m2:=HW.out m HM.out.2
   obtain⟨x0,x1⟩:=x
   obtain⟨y0,y1⟩:=m
   dsimp only at c0 c1 m0 m1 x2 m2
   replace c0:=zP hb c0
   replace c1:=zP hb c1
   by_cases hlt2:y1 < x1
   ·have hdd:decide (y1 < x1)=true:=zDt hlt2
    have HT3:Hid (bestL (T.take (k+1)) (a0,a1)=(x0,x1)):=zN (HT.out.trans (if_pos hlt2))
    clear HT hlt2
    go_wp2
    go_roundw
    case rel=>first|exact⟨k+1,(x0,x1),by omega,by go_num,zN ⟨HT3.out,HX.out⟩,by simp[go_sem,m0,zJ,hne],by simp[go_sem,m1,zJ,hne],by simp[go_sem,f0,RX.frozen_alloc,hne],by simp[go_sem,f1,RX.frozen_alloc,hne],(by repeat (first|(with_reducible first|assumption|exact zBr _ _|refine zBs ?_ (by first|omega|(simp<;>omega)) _|refine zBa ?_ (by first|omega|(simp<;>omega)) _|apply zBd)|assumption))⟩|((repeat apply zEx);exact⟨⟨k+1,(x0,x1),by omega,by go_num,zN ⟨HT3.out,HX.out⟩,by simp[go_sem,m0,zJ,hne],by simp[go_sem,m1,zJ,hne],by simp[go_sem,f0,RX.frozen_alloc,hne],by simp[go_sem,f1,RX.frozen_alloc,hne],(by repeat (first|(with_reducible first|assumption|exact zBr _ _|refine zBs ?_ (by first|omega|(simp<;>omega)) _|refine zBa ?_ (by first|omega|(simp<;>omega)) _|apply zBd)|assumption))⟩,rfl⟩)
    case measure=>simp[intOf];omega
   ·have hdd:decide (y1 < x1)=false:=zDf hlt2
    have HT3:Hid (bestL (T.take (k+1)) (a0,a1)=(y0,y1)):=zN (HT.out.trans (if_neg hlt2))
    have HM2:=zN HM.out.2
    clear HT hlt2
    go_wp2
    go_roundw
    case rel=>first|exact⟨k+1,(y0,y1),by omega,by go_num,zN ⟨HT3.out,HM2.out⟩,by simp[m0,zJ,hne],by simp[m1,zJ,hne],by simp[f0,RX.frozen_alloc,hne],by simp[f1,RX.frozen_alloc,hne],(by repeat (first|(with_reducible first|assumption|exact zBr _ _|refine zBs ?_ (by first|omega|(simp<;>omega)) _|refine zBa ?_ (by first|omega|(simp<;>omega)) _|apply zBd)|assumption))⟩|((repeat apply zEx);exact⟨⟨k+1,(y0,y1),by omega,by go_num,zN ⟨HT3.out,HM2.out⟩,by simp[m0,zJ,hne],by simp[m1,zJ,hne],by simp[f0,RX.frozen_alloc,hne],by simp[f1,RX.frozen_alloc,hne],(by repeat (first|(with_reducible first|assumption|exact zBr _ _|refine zBs ?_ (by first|omega|(simp<;>omega)) _|refine zBa ?_ (by first|omega|(simp<;>omega)) _|apply zBd)|assumption))⟩,rfl⟩)
    case measure=>simp[intOf];omega
  ·obtain rfl:k=T.length:=by omega
   have HBE:Hid (best T=m):=zN (by
    have:=HM.out.1
    rw[List.take_of_length_le (Nat.le_refl _),HB0.out.1] at this
    exact this)
   clear HM HS0
   obtain⟨y0,y1⟩:=m
   dsimp only at m0 m1
   have HB2:=zN (HB1.out.trans (hb.mono hz))
   clear hb
   go_wp2
   go_ret2
   exact⟨T,by rw[HBE.out];rfl,HLOC.out,HB2.out⟩
end Go.Proofs.YtednaajanciabaaGreatDoor
