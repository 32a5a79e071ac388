import Derived.Test.YtojkamfabapcoaaGreatDoorKPrec
import Derived.Test.YtojkamfabapcoaaGreatDoorKRegion
import Derived.Test.YtojkamfabapcoaaGreatDoorKLists
import Derived.Test.YtojkamfabapcoaaGreatDoorApply
set_option maxRecDepth 100000
set_option maxHeartbeats 8000000
set_option linter.unusedSimpArgs false
set_option linter.unusedVariables false
namespace Go.Proofs.YtojkamfabapcoaaGreatDoor
open Go.RowKit Go.Grid Go.Maps Go.Sort Go.Shelf
theorem rpcheck_any (f s a:Int) (w:World):Calls Tryz.prog 58 #[prv f s a] w fun e w'=>e=.returned (.int .i64 (prErr f s a))∧Below w.heap.size w w':=by
 have hpv:Hid (prv f s a=.agg #[.int .i64 f,.int .i64 s,.int .i64 a]):=zN rfl
 have yes:PrOk f s a→prErr f s a=0:=fun h=>if_pos h
 have no:¬ PrOk f s a→prErr f s a=1:=fun h=>if_neg h
 rw[hpv.out]
 have hw:(f < 1)∨(1≤f∧8 < f)∨((1≤f∧f≤8)∧s < 0)∨((1≤f∧f≤8)∧0≤s∧1000000 < s)∨((1≤f∧f≤8)∧(0≤s∧s≤1000000)∧a < 1)∨((1≤f∧f≤8)∧(0≤s∧s≤1000000)∧1≤a∧1000000 < a)∨((1≤f∧f≤8)∧(0≤s∧s≤1000000)∧1≤a∧a≤1000000):=by omega
 rcases hw with h|⟨h1,h2⟩|⟨⟨h1,h2⟩,h3⟩|⟨⟨h1,h2⟩,h3,h4⟩|⟨⟨h1,h2⟩,⟨h3,h4⟩,h5⟩|⟨⟨h1,h2⟩,⟨h3,h4⟩,h5,h6⟩|⟨⟨h1,h2⟩,⟨h3,h4⟩,h5,h6⟩
 all_goals
  have HE:Hid ((PrOk f s a∧prErr f s a=0)∨(¬ PrOk f s a∧prErr f s a=1)):=zN (by
   by_cases h:PrOk f s a
   ·exact .inl ⟨h,yes h⟩
   ·exact .inr ⟨h,no h⟩)
  clear yes no
  go_enter Tryz.func58,Tryz.ntmps58
  go_wp2
  go_ret
  refine⟨?_,(by repeat (first|(with_reducible first|assumption|exact zBr _ _|refine zBs ?_ (by first|omega|(simp<;>omega)) _|refine zBa ?_ (by first|omega|(simp<;>omega)) _|apply zBd)|assumption))⟩
  obtain⟨h9,e⟩|⟨h9,e⟩:=HE.out<;>rw[e]<;>unfold PrOk at h9<;>first|rfl|(exfalso;omega)
theorem rsmall_any (m:Int) (hm:0≤m∧m≤4611686018427387904) (p:Option Addr) (zs:List Int) (cap:Nat) (w:World) (hV:VecAt w p zs) (hl:zs.length≤1000000000) (hI:I64L zs) :
  Calls Tryz.prog 92 #[.slice p zs.length cap,.int .i64 m] w fun e w'=>e=.returned (.bool (decide (∀ x∈zs,-m≤x∧x≤m)))∧w=w':=by
 have HI:=zN hI
 clear hI
 go_enter Tryz.func92,Tryz.ntmps92
 go_wp2
 go_loopw [5] (fun i wr=>∃ k:Nat,k≤zs.length∧i=.int .i64 k∧Hid (∀ j (h:j < zs.length),j < k→-m≤zs[j]∧zs[j]≤m)∧wr=w) (fun i _=>zs.length-(intOf i).toNat)
 case atStart=>exact⟨0,by omega,rfl,zN fun j _ hj=>by omega,rfl⟩
 case round=>
  obtain⟨k,hk,rfl,HK,rfl⟩:=hrel
  by_cases hlt:k < zs.length
  ·have hdk:decide ((k:Int) < (zs.length:Int))=true:=zDt (by omega)
   obtain⟨b,o,rfl,hbl,hcell⟩:=hV.cell (by omega)
   have ck:=hcell k hlt
   have hr:=HI.out zs[k] (List.getElem_mem _)
   obtain⟨x,hx⟩:∃ x,x=zs[k]:=⟨_,rfl⟩
   rw[←hx] at ck hr
   have HX:=zN hx
   clear hx hcell
   by_cases h1:m < x
   ·have HN:Hid (decide (∀ x∈zs,-m≤x∧x≤m)=false):=zN (zDf fun h=>by have:=h zs[k] (List.getElem_mem _);have:=HX.out;omega)
    go_wp2
    go_ret
    rw[HN.out];exact⟨rfl,rfl⟩
   ·by_cases h2:x < -m
    ·have HN:Hid (decide (∀ x∈zs,-m≤x∧x≤m)=false):=zN (zDf fun h=>by have:=h zs[k] (List.getElem_mem _);have:=HX.out;omega)
     go_wp2
     go_ret
     rw[HN.out];exact⟨rfl,rfl⟩
    ·go_wp2
     go_roundw
     case rel=>exact⟨k+1,by omega,by go_num,zN fun j hj hjk=>by
      by_cases h:j=k
      ·subst h;have:=HX.out;omega
      ·exact HK.out j hj (by omega),(by first|rfl|trivial)⟩
     case measure=>simp[intOf];omega
  ·have hdk:decide ((k:Int) < (zs.length:Int))=false:=zDf (by omega)
   have hkl:k=zs.length:=by omega
   have HN:Hid (decide (∀ x∈zs,-m≤x∧x≤m)=true):=zN (zDt fun x hx=>by
    obtain⟨j,hj,rfl⟩:=List.getElem_of_mem hx
    exact HK.out j hj (by omega))
   clear hkl
   go_wp2
   go_ret
   rw[HN.out];exact⟨rfl,rfl⟩
theorem rnn_any (f:Int) (h1:1≤f) (h8:f≤8) (w:World):Calls Tryz.prog 50 #[.int .i64 f] w fun e w'=>e=.returned (.int .i64 (10*f*f+2))∧w=w':=by
 have h0:0≤10*f*f:=Int.mul_nonneg (by omega) (by omega)
 have h2:10*f*f≤640:=by
  have:=Int.mul_le_mul (show 10*f≤80 by omega) h8 (by omega) (by omega)
  omega
 go_enter Tryz.func50,Tryz.ntmps50
 go_wp2
 go_ret
 exact⟨rfl,rfl⟩
theorem rvector_any (f s a:Int) (p:Option Addr) (zs:List Int) (cap:Nat) (w:World) (hV:VecAt w p zs) (hl:zs.length≤1000000000) (hI:I64L zs) :
  Calls Tryz.prog 109 #[prv f s a,.slice p zs.length cap] w fun e w'=>e=.returned (.int .i64 (vecErr f s a zs))∧Below w.heap.size w w':=by
 have hpv:Hid (prv f s a=.agg #[.int .i64 f,.int .i64 s,.int .i64 a]):=zN rfl
 have yes:VecOk f s a zs→vecErr f s a zs=0:=fun h=>if_pos h
 have no:¬ VecOk f s a zs→vecErr f s a zs=1:=fun h=>if_neg h
 have hpc:=rpcheck_any f s a
 rw[hpv.out] at hpc ⊢
 by_cases h1:PrOk f s a
 ·have he:prErr f s a=0:=if_pos h1
  have h18:1≤f∧f≤8:=⟨h1.1,h1.2.1⟩
  obtain⟨c,hc⟩:∃ c,c=10*f*f+2:=⟨_,rfl⟩
  have hc2:c≤642∧2≤c:=by
   have h0:0≤10*f*f:=Int.mul_nonneg (by omega) (by omega)
   have:=Int.mul_le_mul (show 10*f≤80 by omega) h18.2 (by omega) (by omega)
   omega
  have HC:=zN hc
  by_cases h2:(zs.length:Int)=c
  ·have HY:Hid ((Small zs→vecErr f s a zs=0)∧(¬ Small zs→vecErr f s a zs=1)):=zN ⟨fun h=>yes ⟨h1,by rw[h2,hc],h⟩,fun h=>no fun hh=>h hh.2.2⟩
   have H2:=zN h2
   clear yes no h1 hc
   go_enter Tryz.func109,Tryz.ntmps109
   go_wp2_with fail
   refine (hpc _).mono ?_
   rintro e w1 ⟨rfl,hb1⟩
   rw[he]
   have c0:w1.cell? ⟨w.heap.size,0,none⟩=some (.int .i64 f):=zP hb1 (by simp[zO,zJ,zQ])
   have hB:Below w.heap.size w w1:=Below.trans (by repeat (first|(with_reducible first|assumption|exact zBr _ _|refine zBs ?_ (by first|omega|(simp<;>omega)) _|refine zBa ?_ (by first|omega|(simp<;>omega)) _|apply zBd)|assumption)) (hb1.mono (by simp))
   clear hb1
   have hV1:=hV.below hB
   go_wp2_with fail
   refine (rnn_any f h18.1 h18.2 _).mono ?_
   rintro e w2 ⟨rfl,rfl⟩
   rw[←HC.out,←H2.out]
   go_wp2_with fail
   refine (rsmall_any 1048576 (by omega) p zs cap _ hV1 hl hI).mono ?_
   rintro e w2 ⟨rfl,rfl⟩
   by_cases hs:Small zs
   ·rw[zDt (show ∀ x∈zs,-1048576≤x∧x≤1048576 from hs)]
    have HN:Hid (vecErr f s a zs=0):=zN (HY.out.1 hs)
    go_wp2
    go_ret
    rw[HN.out];exact⟨rfl,hB⟩
   ·rw[zDf (show ¬ ∀ x∈zs,-1048576≤x∧x≤1048576 from hs)]
    have HN:Hid (vecErr f s a zs=1):=zN (HY.out.2 hs)
    go_wp2
    go_ret
    rw[HN.out];exact⟨rfl,hB⟩
  ·have HN:Hid (vecErr f s a zs=1):=zN (no fun h=>h2 (by rw[h.2.1,hc]))
   clear yes no hc
   go_enter Tryz.func109,Tryz.ntmps109
   go_wp2_with fail
   refine (hpc _).mono ?_
   rintro e w1 ⟨rfl,hb1⟩
   rw[he]
   have c0:w1.cell? ⟨w.heap.size,0,none⟩=some (.int .i64 f):=zP hb1 (by simp[zO,zJ,zQ])
   have hB:Below w.heap.size w w1:=Below.trans (by repeat (first|(with_reducible first|assumption|exact zBr _ _|refine zBs ?_ (by first|omega|(simp<;>omega)) _|refine zBa ?_ (by first|omega|(simp<;>omega)) _|apply zBd)|assumption)) (hb1.mono (by simp))
   clear hb1
   go_wp2_with fail
   refine (rnn_any f h18.1 h18.2 _).mono ?_
   rintro e w2 ⟨rfl,rfl⟩
   rw[←HC.out]
   go_wp2
   go_ret
   rw[HN.out];exact⟨rfl,hB⟩
 ·have he:prErr f s a=1:=if_neg h1
  have HN:Hid (vecErr f s a zs=1):=zN (no fun h=>h1 h.1)
  clear yes no
  go_enter Tryz.func109,Tryz.ntmps109
  go_wp2_with fail
  refine (hpc _).mono ?_
  rintro e w1 ⟨rfl,hb1⟩
  rw[he]
  have hB:Below w.heap.size w w1:=Below.trans (by repeat (first|(with_reducible first|assumption|exact zBr _ _|refine zBs ?_ (by first|omega|(simp<;>omega)) _|refine zBa ?_ (by first|omega|(simp<;>omega)) _|apply zBd)|assumption)) (hb1.mono (by simp))
  clear hb1
  go_wp2
  go_ret
  rw[HN.out];exact⟨rfl,hB⟩
theorem rover_any (f s a:Int) (pe:Option Addr) (ce b5:Nat) (D:List I2) (p:Option Addr) (zs:List Int) (cap:Nat) (w:World) (hpe:0 < D.length→pe=some ⟨b5,0,none⟩) (hP:EdsAt w b5 D) (hce:D.length≤ce)
  (hDin:∀ e∈D,0≤e.1∧e.1 < (zs.length:Int)∧0≤e.2∧e.2 < (zs.length:Int)) (hDl:D.length≤15000) (hV:VecAt w p zs) (hs0:0≤s) (hs1:s≤1000000) (ha0:1≤a) (ha1:a≤1000000) (hsm:Small zs) (h12:1≤zs.length) (hl:zs.length≤1000) :
  Calls Tryz.prog 114 #[.slice pe D.length ce,prv f s a,.slice p zs.length cap] w fun e w'=>∃ N,e=.returned (.slice (some ⟨N,0,none⟩) zs.length zs.length)∧IntsAt w' N 0 (applyL s a zs D)∧w.heap.size≤N∧Below w.heap.size w w':=by
 have hpv:Hid (prv f s a=.agg #[.int .i64 f,.int .i64 s,.int .i64 a]):=zN rfl
 have HB:=zN (And.intro hs0 (And.intro hs1 (And.intro ha0 (And.intro ha1 hsm))))
 rw[hpv.out]
 obtain⟨bx,ox,rfl,hbx,hcx⟩:=hV.cell (by omega)
 have HX:=zN hcx
 have HDin:=zN hDin
 have hb5l:0 < D.length→b5 < w.heap.size:=fun h=>zM _ _ (hP 0 h).1
 have HPD:=zN hP
 clear hcx hDin hP hV
 have hmk:=run_make_row' (P:=Tryz.prog) 25 3 (.int .i64 0) 8 Tryz.underlying25 (by kernel_rfl) rfl .i64 .i64 zs.length (by omega) (by omega)
 go_enter Tryz.func114,Tryz.ntmps114
 go_wp2
 refine absW (F:=fun w'=>IntsAt w' (w.heap.size+1) 0 (fillTo a zs 0)∧Below w.heap.size w w'∧w'.cell? ⟨w.heap.size,1,none⟩=some (.int .i64 s)∧w'.cell? ⟨w.heap.size,2,none⟩=some (.int .i64 a)) ⟨?_,?_,?_,?_⟩ ?_
 ·have h9:=IntsAt.made (w.alloc (.cells #[.int .i64 f,.int .i64 s,.int .i64 a] 23)) zs.length
  rw[World.size_alloc] at h9
  rw[fillTo_zero];exact h9
 ·exact (by repeat (first|(with_reducible first|assumption|exact zBr _ _|refine zBs ?_ (by first|omega|(simp<;>omega)) _|refine zBa ?_ (by first|omega|(simp<;>omega)) _|apply zBd)|assumption))
 ·exact (by simp[zO,zJ,zQ])
 ·exact (by simp[zO,zJ,zQ])
 rintro W3 ⟨hI3,hB2,d1,d2⟩
 obtain⟨N,hN⟩:∃ N,N=w.heap.size+1:=⟨_,rfl⟩
 rw[←hN] at hI3 ⊢
 have hNl:w.heap.size < N:=by omega
 have hg3:=World.grownBy.refl W3 (some N)
 clear hN hmk
 have hbxN:bx≠N:=by omega
 go_loopw [8] (fun i wr=>∃ k:Nat,k≤zs.length∧i=.int .i64 k∧IntsAt wr N 0 (fillTo a zs k)∧W3.grownBy wr (some N)) (fun i _=>zs.length-(intOf i).toNat)
 case atStart=>exact⟨0,by omega,rfl,hI3,hg3⟩
 case round=>
  clear hI3 hg3
  obtain⟨k,hk,rfl,hI,hg⟩:=hrel
  by_cases hlt:k < zs.length
  ·have hdk:decide ((k:Int) < (zs.length:Int))=true:=zDt (by omega)
   have xk:=hg.cell (zP hB2 (HX.out k hlt)) (by simp;exact hbxN)
   have m2:=hg.cell d2 (by simp;omega)
   have hfl:=fillTo_len a zs k (by omega)
   obtain⟨ok1,ok2⟩:=hI k (by omega)
   rw[Nat.zero_add] at ok1 ok2
   obtain⟨u,hu⟩:∃ u,u=(fillTo a zs k)[k]'(by omega):=⟨_,rfl⟩
   rw[←hu] at ok1
   obtain⟨x,hx⟩:∃ x,x=zs[k]:=⟨_,rfl⟩
   rw[←hx] at xk
   obtain⟨q1,q2,q3,q4,q5⟩:=HB.out
   have hxr:=q5 zs[k] (List.getElem_mem _)
   rw[←hx] at hxr
   have hmb:=mul_bd (s:=a) (d:=x) (by omega) q4 (by omega) (by omega)
   obtain⟨y,hy⟩:∃ y,a*x=y:=⟨_,rfl⟩
   have HY:Hid (fillTo a zs (k+1)=(fillTo a zs k).set k y):=zN (by rw[←fillTo_succ hlt,←hx,hy])
   rw[hy] at hmb
   have HI:=zN hI
   clear hu hx hI hxr q5
   have hk0:(0:Int)≤(k:Int):=by omega
   have hkl:(k:Int) < (zs.length:Int):=by omega
   go_wp2
   refine RY.region RX.fL (fun w'=>w'.cell? ⟨w.heap.size,2,none⟩=some (.int .i64 a)∧w'.cell? ⟨bx,ox+k,none⟩=some (.int .i64 x)) (by kernel_rfl) (by kernel_rfl) (⟨m2,xk⟩) (fun OPS HO QR hQR=>?_)
   repeat (refine zeY (fun R hR=>?_);(first|refine zaY (by first|rfl|(rw[HO.out];rfl)) (by simp only[zA,zB,zC,zD];rfl) ?_|refine zbY (by first|rfl|(rw[HO.out];rfl)) rfl (by first|exact .inl rfl|exact .inr rfl) (by simp only[zE,zF,zG,zH];rfl) (by simp only[zA,zB,zC,zD];rfl) ?_|refine zcY (by first|rfl|(rw[HO.out];rfl)) rfl rfl (by simp only[zE,zF,zG,zH];rfl) (by simp only[zA,zB,zC,zD];rfl) ?_|(refine zdY (by first|rfl|(rw[HO.out];rfl)) rfl rfl rfl ?_;apply zEx;apply zEx;refine⟨fun w' hS K hK=>?_,?_,?_⟩;(focus (obtain⟨hS1,hS2⟩:=hS;go_wp2;exact hK _ _ (by simp only[zl,zG,zH];first|exact zf (by omega)|exact zg (by omega)|exact zh (by omega)|exact zi (by omega)|exact zj (by omega)|exact zk (by omega)|exact RX.bneB _|rfl) rfl));(focus (simp only[zA,zB,zC,zD];rfl))));refine hR _ _ ?_;clear hR R)
   refine zeY (fun R hR=>?_)
   refine zgY (by first|rfl|(rw[HO.out];rfl)) rfl (fun K hK=>?_)
   go_wp2
   first|refine⟨(by first|exact .inl rfl|exact .inl trivial|trivial),hR _ _ (RY.wpL_nil (hQR _ _ ?_))⟩|refine hR _ _ (RY.wpL_nil (hQR _ _ ?_))|refine hQR _ _ ?_
   (try clear hR);(try clear R);clear hQR QR HO OPS
   go_wp2
   go_roundw
   case rel=>exact⟨k+1,by omega,by go_num,by rw[HY.out];have:=HI.out.set k y;rwa[Nat.zero_add] at this,grown_drew (hg.trans (grownBy_setCell _ _ _ _))⟩
   case measure=>simp[intOf];omega
  ·obtain rfl:k=zs.length:=by omega
   rw[fillTo_end] at hI
   change IntsAt wr N 0 (applyTo s a zs D 0) at hI
   have HI:=zN hI
   clear hI
   go_wp2
   go_loopw [9] (fun i wr=>∃ k:Nat,k≤D.length∧i=.int .i64 k∧Hid (IntsAt wr N 0 (applyTo s a zs D k))∧W3.grownBy wr (some N)) (fun i _=>D.length-(intOf i).toNat)
   case atStart=>exact⟨0,by omega,rfl,HI,hg⟩
   case round=>
    clear HI hg
    obtain⟨k,hk,rfl,HI,hg⟩:=hrel
    by_cases hlt:k < D.length
    ·have hdk:decide ((k:Int) < (D.length:Int))=true:=zDt (by omega)
     obtain⟨q1,q2,q3,q4,q5⟩:=HB.out
     have hbd:=applyTo_bd (D:=D) ⟨q1,q2⟩ ⟨q3,q4⟩ q5 k hk
     have hb5n:=hb5l (by omega)
     obtain rfl:=hpe (by omega)
     have x0:=hg.cell (zP hB2 (HPD.out k hlt).1) (by simp;omega)
     have x1:=hg.cell (zP hB2 (HPD.out k hlt).2) (by simp;omega)
     obtain⟨c,hc⟩:∃ c,c=D[k]:=⟨_,rfl⟩
     obtain⟨g1,g2,g3,g4⟩:=HDin.out D[k] (List.getElem_mem _)
     rw[←hc] at x0 x1 g1 g2 g3 g4
     obtain⟨cA,cB'⟩:=c
     dsimp only at x0 x1 g1 g2 g3 g4
     obtain⟨ia,rfl⟩:∃ ia:Nat,cA=(ia:Int):=⟨cA.toNat,by omega⟩
     obtain⟨ib,rfl⟩:∃ ib:Nat,cB'=(ib:Int):=⟨cB'.toNat,by omega⟩
     have hia:ia < zs.length:=by omega
     have hib:ib < zs.length:=by omega
     have xa:=hg.cell (zP hB2 (HX.out ia hia)) (by simp;exact hbxN)
     have xb:=hg.cell (zP hB2 (HX.out ib hib)) (by simp;exact hbxN)
     have m1:=hg.cell d1 (by simp;omega)
     have hol:=applyTo_len s a zs D k hk
     have HSucc:Hid (applyTo s a zs D (k+1)=stepE s zs (applyTo s a zs D k) ((ia:Int),(ib:Int))):=zN (by rw[applyTo_succ hlt,←hc])
     obtain⟨o,ho⟩:∃ o,o=applyTo s a zs D k:=⟨_,rfl⟩
     rw[←ho] at hbd hol HI HSucc
     have hza:=(show Bd 1048576 zs from q5) zs[ia] (List.getElem_mem _)
     have hzb:=(show Bd 1048576 zs from q5) zs[ib] (List.getElem_mem _)
     obtain⟨za,hzae⟩:∃ z,z=zs[ia]:=⟨_,rfl⟩
     obtain⟨zb,hzbe⟩:∃ z,z=zs[ib]:=⟨_,rfl⟩
     rw[←hzae] at xa hza
     rw[←hzbe] at xb hzb
     have hmb:=mul_bd (s:=s) (d:=za-zb) q1 q2 (by omega) (by omega)
     obtain⟨d,hd⟩:∃ d,s*(za-zb)=d:=⟨_,rfl⟩
     rw[hd] at hmb
     have hoa:=hbd o[ia] (List.getElem_mem (by omega))
     obtain⟨ok1,ok2⟩:=HI.out ia (by omega)
     rw[Nat.zero_add] at ok1 ok2
     obtain⟨oa,hoae⟩:∃ z,z=o[ia]'(by omega):=⟨_,rfl⟩
     rw[←hoae] at ok1 hoa
     obtain⟨u,hu⟩:∃ u,oa+d=u:=⟨_,rfl⟩
     have hI1:IntsAt (wr.setCell ⟨N,ia,none⟩ (.int .i64 u)) N 0 (o.set ia u):=by have:=HI.out.set ia u;rwa[Nat.zero_add] at this
     obtain⟨pk1,pk2⟩:=hI1 ib (by simp;omega)
     rw[Nat.zero_add] at pk1 pk2
     obtain⟨ob,hobe⟩:∃ z,z=(o.set ia u)[ib]'(by simp;omega):=⟨_,rfl⟩
     rw[←hobe] at pk1
     have hkk:(k:Int)≤15000:=by omega
     have hob:-70000000000000000≤ob∧ob≤70000000000000000:=by
      have h9:Bd 70000000000000000 (o.set ia u):=(hbd.mono (by omega)).set _ (by omega)
      rw[hobe];exact h9 _ (List.getElem_mem _)
     have hoa2:-70000000000000000≤oa∧oa≤70000000000000000:=by omega
     obtain⟨v,hv⟩:∃ v,ob-d=v:=⟨_,rfl⟩
     have HI2:Hid (IntsAt ((wr.setCell ⟨N,ia,none⟩ (.int .i64 u)).setCell ⟨N,ib,none⟩ (.int .i64 v)) N 0 (applyTo s a zs D (k+1))):=zN (by
      have h9:=hI1.set ib v
      rw[Nat.zero_add] at h9
      rw[HSucc.out]
      unfold stepE
      simp only[Int.toNat_natCast]
      rw[show zs.getD ia 0=za by rw[hzae];simp[List.getD,List.getElem?_eq_getElem hia],show zs.getD ib 0=zb by rw[hzbe];simp[List.getD,List.getElem?_eq_getElem hib],hd,
       show o.getD ia 0=oa by rw[hoae];simp[List.getD,List.getElem?_eq_getElem (show ia < o.length by omega)],hu,
       show (o.set ia u).getD ib 0=ob by rw[hobe];simp[List.getD,List.getElem?_eq_getElem (show ib < (o.set ia u).length by simp;omega)],hv]
      exact h9)
     have hNw:N < wr.heap.size:=zM _ _ ok1
     have hsw:=hg.size
     clear hc hbd HSucc ho HI hI1 hzae hzbe hoae hobe q5 g1 g2 g3 g4 hoa
     have l1:bx < wr.heap.size:=by omega
     have l2:w.heap.size < wr.heap.size:=by omega
     have l3:¬ (N=wr.heap.size):=by omega
     have l4:¬ (bx=wr.heap.size):=by omega
     have l5:¬ (w.heap.size=wr.heap.size):=by omega
     go_wp2
     refine RX.region RX.fN (fun w'=>w'=_) (by kernel_rfl) (by kernel_rfl) rfl (fun OPS HO QR hQR=>?_)
     repeat (refine zeX (fun R hR=>?_);(first|refine zaX (by first|rfl|(rw[HO.out];rfl)) (by simp only[zA,zB,zC,zD];rfl) ?_|refine zbX (by first|rfl|(rw[HO.out];rfl)) rfl (by first|exact .inl rfl|exact .inr rfl) (by simp only[zE,zF,zG,zH];rfl) (by simp only[zA,zB,zC,zD];rfl) ?_|refine zcX (by first|rfl|(rw[HO.out];rfl)) rfl rfl (by simp only[zE,zF,zG,zH];rfl) (by simp only[zA,zB,zC,zD];rfl) ?_|(refine zdX (by first|rfl|(rw[HO.out];rfl)) rfl rfl rfl ?_;apply zEx;apply zEx;refine⟨fun w' hS K hK=>?_,?_,?_⟩;(focus (subst hS;go_wp2;exact hK _ _ (by simp only[zl,zG,zH];first|exact zf (by omega)|exact zg (by omega)|exact zh (by omega)|exact zi (by omega)|exact zj (by omega)|exact zk (by omega)|exact RX.bneB _|rfl) rfl));(focus (simp only[zA,zB,zC,zD];rfl))));refine hR _ _ ?_;clear hR R)
     refine RX.wpL_nil (hQR _ _ rfl ?_);clear hQR QR HO OPS
     go_wp2
     go_roundw
     case rel=>exact⟨k+1,by omega,by go_num,HI2,grown_drew ((hg.trans (grownBy_setCell _ _ _ _)).trans (grownBy_setCell _ _ _ _))⟩
     case measure=>simp[intOf];omega
    ·have hdk:decide ((k:Int) < (D.length:Int))=false:=zDf (by omega)
     have hkD:k=D.length:=by omega
     have HKD:=zN hkD
     clear hkD
     go_wp2
     go_ret
     refine⟨N,rfl,by have:=HI.out;rw[HKD.out] at this;exact this,by omega,?_⟩
     exact hB2.grown hg hB2.size (fun k hk=>by injection hk with hk;omega)
end Go.Proofs.YtojkamfabapcoaaGreatDoor
