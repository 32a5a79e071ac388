import Derived.Test.YtojkamfabapcoaaGreatDoorKSum
set_option maxRecDepth 100000
set_option maxHeartbeats 8000000
set_option linter.unusedSimpArgs false
set_option linter.unusedVariables false
namespace Go.Proofs.YtojkamfabapcoaaGreatDoor
open Go.RowKit
theorem add64_int (x y c:Int) (hx:0≤x) (hy:0≤y) (hc0:0≤c) (hc:c≤1) (w:World) :
  (callFunc 108 #[.int .u64 x,.int .u64 y,.int .u64 c]).run Tryz.prog w =
   .ok (.value (.tuple #[.int .u64 ((x+y+c) % 18446744073709551616),.int .u64 ((x+y+c) / 18446744073709551616)])) w:=by
 obtain⟨a,rfl⟩:=Int.eq_ofNat_of_zero_le hx
 obtain⟨b,rfl⟩:=Int.eq_ofNat_of_zero_le hy
 obtain⟨d,rfl⟩:=Int.eq_ofNat_of_zero_le hc0
 have:=add64_any a b d (by omega) w
 simpa using this
theorem radd_any (p q:Int) (w:World) :
  Calls Tryz.prog 76 #[wv p,wv q] w fun e w'=>e=.returned (wv (p+q))∧Below w.heap.size w w':=by
 obtain⟨a,ha⟩:∃ a,a=wrap64 (p / 18446744073709551616):=⟨_,rfl⟩
 obtain⟨b,hb⟩:∃ a,a=wrap64 (q / 18446744073709551616):=⟨_,rfl⟩
 obtain⟨l,hl⟩:∃ a,a=p % 18446744073709551616:=⟨_,rfl⟩
 obtain⟨m,hm⟩:∃ a,a=q % 18446744073709551616:=⟨_,rfl⟩
 rw[show wv p=.agg #[.int .i64 a,.int .u64 l] by rw[ha,hl];rfl,show wv q=.agg #[.int .i64 b,.int .u64 m] by rw[hb,hm];rfl]
 have l0:0≤l:=by omega
 have l1:l < 18446744073709551616:=by omega
 have m0:0≤m:=by omega
 have m1:m < 18446744073709551616:=by omega
 have K:Hid (wv (p+q)=.agg #[.int .i64 (wrap64 ((a % 18446744073709551616+b % 18446744073709551616+(l+m) / 18446744073709551616) % 18446744073709551616)),.int .u64 ((l+m) % 18446744073709551616)]):=by
  have g1:wrap64 ((p+q) / 18446744073709551616)=wrap64 ((a % 18446744073709551616+b % 18446744073709551616+(l+m) / 18446744073709551616) % 18446744073709551616):=by subst ha hb hl hm;unfold wrap64;omega
  have g2:(p+q) % 18446744073709551616=(l+m) % 18446744073709551616:=by omega
  show _=_
  unfold wv;rw[g1,g2]
 clear ha hb hl hm
 go_enter Tryz.func76,Tryz.ntmps76
 go_wp2_with (first|rw[add64_int _ _ _ (by omega) (by omega) (by omega) (by omega)]|(simp only[IntKind.wrap_u64];rw[add64_int _ _ _ (by omega) (by omega) (by omega) (by omega)]))
 refine bodyPost_ret (v:=.agg #[.int .i64 (wrap64 ((a % 18446744073709551616+b % 18446744073709551616+(l+m) / 18446744073709551616) % 18446744073709551616)),.int .u64 ((l+m) % 18446744073709551616)]) ?_ rfl ⟨by rw[K.out],?_⟩
 ·simp[results,Tryz.results76,go_sem]
 ·exact (by repeat (first|(with_reducible first|assumption|exact zBr _ _|refine zBs ?_ (by first|omega|simp<;>omega) _|refine zBa ?_ (by first|omega|simp<;>omega) _|apply zBd)|assumption))
theorem rcompare_any (h1 l1 h2 l2:Int) (w:World) :
  Calls Tryz.prog 95 #[.agg #[.int .i64 h1,.int .u64 l1],.agg #[.int .i64 h2,.int .u64 l2]] w fun e w'=>e=.returned (.int .i64 (cmpW h1 l1 h2 l2))∧Below w.heap.size w w':=by
 rcases Int.lt_trichotomy h1 h2 with h|h|h
 ·have K:Hid (cmpW h1 l1 h2 l2=-1):=by show _=_;unfold cmpW sgn;simp[orL,h]
  go_enter Tryz.func95,Tryz.ntmps95
  go_wp2
  go_ret
  exact⟨by rw[K.out];rfl,(by repeat (first|(with_reducible first|assumption|exact zBr _ _|refine zBs ?_ (by first|omega|simp<;>omega) _|refine zBa ?_ (by first|omega|simp<;>omega) _|apply zBd)|assumption))⟩
 ·subst h
  rcases Int.lt_trichotomy l1 l2 with g|g|g
  ·have K:Hid (cmpW h1 l1 h1 l2=-1):=by show _=_;unfold cmpW sgn;simp[orL,g]
   go_enter Tryz.func95,Tryz.ntmps95
   go_wp2
   go_ret
   exact⟨by rw[K.out];rfl,(by repeat (first|(with_reducible first|assumption|exact zBr _ _|refine zBs ?_ (by first|omega|simp<;>omega) _|refine zBa ?_ (by first|omega|simp<;>omega) _|apply zBd)|assumption))⟩
  ·subst g
   have K:Hid (cmpW h1 l1 h1 l1=0):=by show _=_;unfold cmpW sgn;simp[orL]
   go_enter Tryz.func95,Tryz.ntmps95
   go_wp2
   go_ret
   exact⟨by rw[K.out];rfl,(by repeat (first|(with_reducible first|assumption|exact zBr _ _|refine zBs ?_ (by first|omega|simp<;>omega) _|refine zBa ?_ (by first|omega|simp<;>omega) _|apply zBd)|assumption))⟩
  ·have K:Hid (cmpW h1 l1 h1 l2=1):=by show _=_;unfold cmpW sgn;simp[orL,g];omega
   have n1:¬ l1 < l2:=by omega
   have n2:(l1 == l2)=false:=by simp;omega
   go_enter Tryz.func95,Tryz.ntmps95
   go_wp2
   go_ret
   exact⟨by rw[K.out];rfl,(by repeat (first|(with_reducible first|assumption|exact zBr _ _|refine zBs ?_ (by first|omega|simp<;>omega) _|refine zBa ?_ (by first|omega|simp<;>omega) _|apply zBd)|assumption))⟩
 ·have K:Hid (cmpW h1 l1 h2 l2=1):=by show _=_;unfold cmpW sgn;simp[orL,h];omega
  have n1:¬ h1 < h2:=by omega
  have n2:(h1 == h2)=false:=by simp;omega
  go_enter Tryz.func95,Tryz.ntmps95
  go_wp2
  go_ret
  exact⟨by rw[K.out];rfl,(by repeat (first|(with_reducible first|assumption|exact zBr _ _|refine zBs ?_ (by first|omega|simp<;>omega) _|refine zBa ?_ (by first|omega|simp<;>omega) _|apply zBd)|assumption))⟩
theorem radd_at (v u:Value) (p q:Int) (hv:v=wv p) (hu:u=wv q) (w:World) :
  Calls Tryz.prog 76 #[v,u] w fun e w'=>e=.returned (wv (p+q))∧Below w.heap.size w w':=by
 subst hv hu;exact radd_any p q w
theorem rnegate_any (p:Int) (w:World) :
  Calls Tryz.prog 111 #[wv p] w fun e w'=>e=.returned (wv (-p))∧Below w.heap.size w w':=by
 have K:=zN (wv_neg p)
 rw[show wv p=.agg #[.int .i64 (wrap64 (p / 18446744073709551616)),.int .u64 (p % 18446744073709551616)] from rfl]
 generalize hA:wrap64 (p / 18446744073709551616)=A at *
 generalize hB:p % 18446744073709551616=B at *
 clear hA hB
 have K2:=zN (wv_add_neg p)
 have K3:Hid (wv (-p)=.agg #[.int .i64 (wrap64 (-p / 18446744073709551616)),.int .u64 (-p % 18446744073709551616)]):=zN rfl
 generalize wrap64 (-p / 18446744073709551616)=C at *
 generalize (-p % 18446744073709551616)=D at *
 generalize wv (-p)=R at *
 go_enter Tryz.func111,Tryz.ntmps111
 go_wp2_with fail
 refine (radd_at _ _ (-p-1) 1 K.out wv_one _).mono ?_
 rintro e w1 ⟨rfl,hB⟩
 rw[K2.out]
 have b0:w1.cell? ⟨w.heap.size+1,0,none⟩=some (.int .i64 0):=zP hB (by simp[zO,zJ,zQ])
 have b1:w1.cell? ⟨w.heap.size+1,1,none⟩=some (.int .u64 0):=zP hB (by simp[zO,zJ,zQ])
 have f0:w1.frozen? ⟨w.heap.size+1,0,none⟩=false:=(hB.frozen (by simp)).trans (by simp[RX.frozen_alloc])
 have f1:w1.frozen? ⟨w.heap.size+1,1,none⟩=false:=(hB.frozen (by simp)).trans (by simp[RX.frozen_alloc])
 have hs:=hB.size
 have hBB:Below w.heap.size w w1:=Below.trans (by repeat (first|(with_reducible first|assumption|exact zBr _ _|refine zBs ?_ (by first|omega|simp<;>omega) _|refine zBa ?_ (by first|omega|simp<;>omega) _|apply zBd)|assumption)) (hB.mono (by simp;omega))
 clear hB
 go_wp2
 refine bodyPost_ret (v:=.agg #[.int .i64 C,.int .u64 D]) ?_ rfl ⟨by rw[K3.out],?_⟩
 ·have g0:((w1.setCell ⟨w.heap.size+1,0,none⟩ (.int .i64 C)).setCell ⟨w.heap.size+1,1,none⟩ (.int .u64 D)).cell? ⟨w.heap.size+1,0,none⟩=some (.int .i64 C):=by
   rw[zK _ _ _ _ (by simp)];exact zL _ _ _ (by rw[b0];rfl)
  have g1:((w1.setCell ⟨w.heap.size+1,0,none⟩ (.int .i64 C)).setCell ⟨w.heap.size+1,1,none⟩ (.int .u64 D)).cell? ⟨w.heap.size+1,1,none⟩=some (.int .u64 D):=
   zL _ _ _ (by rw[zK _ _ _ _ (by simp),b1];rfl)
  generalize (w1.setCell ⟨w.heap.size+1,0,none⟩ (.int .i64 C)).setCell ⟨w.heap.size+1,1,none⟩ (.int .u64 D)=W at g0 g1 ⊢
  simp[results,Tryz.results111,go_sem,g0,g1]
 ·exact (hBB.setCell (by simp) _).setCell (by simp) _
theorem size_any (n:Int) (h1:-9223372036854775808≤n) (h2:n≤9223372036854775807) (w:World) :
  Calls Tryz.prog 110 #[.int .i64 n] w fun e w'=>e=.returned (.int .u64 (n.natAbs:Nat))∧Below w.heap.size w w':=by
 by_cases h:n < 0
 ·have K:Hid (IntKind.u64.wrap (-IntKind.u64.wrap n)=(n.natAbs:Nat)):=by show _=_;rw[IntKind.wrap_u64,IntKind.wrap_u64];omega
  go_enter Tryz.func110,Tryz.ntmps110
  go_wp2
  go_ret
  exact⟨by rw[←K.out];rfl,(by repeat (first|(with_reducible first|assumption|exact zBr _ _|refine zBs ?_ (by first|omega|simp<;>omega) _|refine zBa ?_ (by first|omega|simp<;>omega) _|apply zBd)|assumption))⟩
 ·have K:Hid (n=(n.natAbs:Nat)):=by show _=_;omega
  go_enter Tryz.func110,Tryz.ntmps110
  go_wp2
  go_ret
  exact⟨by rw[←K.out];rfl,(by repeat (first|(with_reducible first|assumption|exact zBr _ _|refine zBs ?_ (by first|omega|simp<;>omega) _|refine zBa ?_ (by first|omega|simp<;>omega) _|apply zBd)|assumption))⟩
theorem rnegate_at (v:Value) (p:Int) (hv:v=wv p) (w:World) :
  Calls Tryz.prog 111 #[v] w fun e w'=>e=.returned (wv (-p))∧Below w.heap.size w w':=by
 subst hv;exact rnegate_any p w
theorem abs_mul_same (a b:Int) (h:(decide (a < 0) == decide (b < 0))=true):(a.natAbs:Int)*(b.natAbs:Int)=a*b:=by
 by_cases ha:a < 0<;>by_cases hb:b < 0<;>simp[ha,hb] at h
 ·rw[show (a.natAbs:Int)=-a by omega,show (b.natAbs:Int)=-b by omega,Int.neg_mul_neg]
 ·rw[show (a.natAbs:Int)=a by omega,show (b.natAbs:Int)=b by omega]
theorem abs_mul_mixed (a b:Int) (h:(decide (a < 0) == decide (b < 0))=false):-((a.natAbs:Int)*(b.natAbs:Int))=a*b:=by
 by_cases ha:a < 0<;>by_cases hb:b < 0<;>simp[ha,hb] at h
 ·rw[show (a.natAbs:Int)=-a by omega,show (b.natAbs:Int)=b by omega,Int.neg_mul,Int.neg_neg]
 ·rw[show (a.natAbs:Int)=a by omega,show (b.natAbs:Int)=-b by omega,Int.mul_neg,Int.neg_neg]
theorem rproduct_any (a b:Int) (w:World) (ha:-9223372036854775808≤a) (ha':a≤9223372036854775807) (hb:-9223372036854775808≤b) (hb':b≤9223372036854775807) :
  Calls Tryz.prog 77 #[.int .i64 a,.int .i64 b] w fun e w'=>e=.returned (wv (a*b))∧Below w.heap.size w w':=by
 obtain⟨C,D,hR⟩:∃ H L,wv (a*b)=.agg #[.int .i64 H,.int .u64 L]:=⟨_,_,rfl⟩
 have hM:(decide (a < 0) == decide (b < 0))=true→Hid (wv (a*b)=.agg #[.int .i64 (wrap64 ((a.natAbs:Int)*(b.natAbs:Int) / 18446744073709551616)),.int .u64 ((a.natAbs:Int)*(b.natAbs:Int) % 18446744073709551616)]):=by
  intro h;show _=_;rw[←abs_mul_same a b h];rfl
 have hN:(decide (a < 0) == decide (b < 0))=false→Hid (wv (-((a.natAbs:Int)*(b.natAbs:Int)))=.agg #[.int .i64 C,.int .u64 D]):=by
  intro h;show _=_;rw[abs_mul_mixed a b h];exact hR
 have hP:Hid ((.agg #[.int .i64 (wrap64 ((a.natAbs:Int)*(b.natAbs:Int) / 18446744073709551616)),.int .u64 ((a.natAbs:Int)*(b.natAbs:Int) % 18446744073709551616)]:Value)=wv ((a.natAbs:Int)*(b.natAbs:Int))):=by show _=_;rfl
 have hR:=zN hR
 go_enter Tryz.func77,Tryz.ntmps77
 go_wp2_with fail
 refine (size_any a ha ha' _).mono ?_
 rintro e w1 ⟨rfl,hb1⟩
 have r0:w1.cell? ⟨w.heap.size,0,none⟩=some (.int .i64 0):=zP hb1 (by simp[zO,zJ,zQ])
 have r1:w1.cell? ⟨w.heap.size,1,none⟩=some (.int .u64 0):=zP hb1 (by simp[zO,zJ,zQ])
 have f0:w1.frozen? ⟨w.heap.size,0,none⟩=false:=(hb1.frozen (by simp)).trans (by simp[RX.frozen_alloc])
 have f1:w1.frozen? ⟨w.heap.size,1,none⟩=false:=(hb1.frozen (by simp)).trans (by simp[RX.frozen_alloc])
 have hs1:=hb1.size
 have hlt:w.heap.size < w1.heap.size:=by simp at hs1;omega
 have hB1:Below w.heap.size w w1:=Below.trans (by repeat (first|(with_reducible first|assumption|exact zBr _ _|refine zBs ?_ (by first|omega|simp<;>omega) _|refine zBa ?_ (by first|omega|simp<;>omega) _|apply zBd)|assumption)) (hb1.mono (by simp))
 clear hb1 hs1
 go_wp2_with fail
 refine (size_any b hb hb' _).mono ?_
 rintro e w2 ⟨rfl,hb2⟩
 have q0:=zP hb2 r0
 have q1:=zP hb2 r1
 have p0:w2.frozen? ⟨w.heap.size,0,none⟩=false:=(hb2.frozen (by simpa using hlt)).trans f0
 have p1:w2.frozen? ⟨w.heap.size,1,none⟩=false:=(hb2.frozen (by simpa using hlt)).trans f1
 have hB2:Below w.heap.size w w2:=hB1.trans (hb2.mono hB1.size)
 have hlt2:w.heap.size < w2.heap.size:=Nat.lt_of_lt_of_le hlt hb2.size
 clear hb2 r0 r1 f0 f1 hB1 hlt
 go_wp2_with fail
 refine (Tryz.bits_Mul64 a.natAbs b.natAbs (by omega) (by omega) _).mono ?_
 rintro e w3 ⟨rfl,rfl⟩
 clear ha ha' hb hb'
 rcases hcc:(decide (a < 0) == decide (b < 0)) with _|_
 ·have hN:=hN hcc
  clear hM
  go_wp2_with fail
  refine (rnegate_at _ _ hP.out _).mono ?_
  rintro e w4 ⟨rfl,hb4⟩
  rw[hN.out]
  have x0:w4.cell? ⟨w.heap.size,0,none⟩=some (.int .i64 0):=zP hb4 (by (try have hLt:=zM _ _ q0);(try simp only at hLt);(repeat first|rw[zO]|rw[zK _ _ _ _ (by first|(simp<;>omega)|omega)]|rw[zJ,if_neg (by first|(simp<;>omega)|omega)]);first|exact q0|(rw[zJ,if_pos (by first|(simp;done)|omega)];exact q0))
  have x1:w4.cell? ⟨w.heap.size,1,none⟩=some (.int .u64 0):=zP hb4 (by (try have hLt:=zM _ _ q1);(try simp only at hLt);(repeat first|rw[zO]|rw[zK _ _ _ _ (by first|(simp<;>omega)|omega)]|rw[zJ,if_neg (by first|(simp<;>omega)|omega)]);first|exact q1|(rw[zJ,if_pos (by first|(simp;done)|omega)];exact q1))
  have y0:w4.frozen? ⟨w.heap.size,0,none⟩=false:=(hb4.frozen (by simp;omega)).trans (by rw[RX.frozen_alloc,if_neg (by first|omega|(simp;omega))];exact p0)
  have y1:w4.frozen? ⟨w.heap.size,1,none⟩=false:=(hb4.frozen (by simp;omega)).trans (by rw[RX.frozen_alloc,if_neg (by first|omega|(simp;omega))];exact p1)
  have hX:Below w.heap.size w w4:=(hB2.alloc (by omega) _).trans (hb4.mono (by simp;omega))
  clear hb4 hB2 q0 q1 p0 p1 hlt2 hcc
  go_wp2
  refine bodyPost_ret (v:=.agg #[.int .i64 C,.int .u64 D]) ?_ rfl ⟨by rw[hR.out],?_⟩
  ·have g0:((w4.setCell ⟨w.heap.size,0,none⟩ (.int .i64 C)).setCell ⟨w.heap.size,1,none⟩ (.int .u64 D)).cell? ⟨w.heap.size,0,none⟩=some (.int .i64 C):=by
    rw[zK _ _ _ _ (by simp)];exact zL _ _ _ (by rw[x0];rfl)
   have g1:((w4.setCell ⟨w.heap.size,0,none⟩ (.int .i64 C)).setCell ⟨w.heap.size,1,none⟩ (.int .u64 D)).cell? ⟨w.heap.size,1,none⟩=some (.int .u64 D):=
    zL _ _ _ (by rw[zK _ _ _ _ (by simp),x1];rfl)
   generalize (w4.setCell ⟨w.heap.size,0,none⟩ (.int .i64 C)).setCell ⟨w.heap.size,1,none⟩ (.int .u64 D)=W at g0 g1 ⊢
   simp[results,Tryz.results77,go_sem,g0,g1]
  ·exact (hX.setCell (by simp) _).setCell (by simp) _
 ·have hM:=hM hcc
  clear hN
  go_wp2_with fail
  have x0:=q0
  have x1:=q1
  refine bodyPost_ret (v:=.agg #[.int .i64 (wrap64 ((a.natAbs:Int)*(b.natAbs:Int) / 18446744073709551616)),.int .u64 ((a.natAbs:Int)*(b.natAbs:Int) % 18446744073709551616)]) ?_ rfl ⟨by rw[hM.out],?_⟩
  ·have g0:((w3.setCell ⟨w.heap.size,0,none⟩ (.int .i64 (wrap64 ((a.natAbs:Int)*(b.natAbs:Int) / 18446744073709551616)))).setCell ⟨w.heap.size,1,none⟩ (.int .u64 ((a.natAbs:Int)*(b.natAbs:Int) % 18446744073709551616))).cell? ⟨w.heap.size,0,none⟩=some (.int .i64 (wrap64 ((a.natAbs:Int)*(b.natAbs:Int) / 18446744073709551616))):=by
    rw[zK _ _ _ _ (by simp)];exact zL _ _ _ (by rw[x0];rfl)
   have g1:((w3.setCell ⟨w.heap.size,0,none⟩ (.int .i64 (wrap64 ((a.natAbs:Int)*(b.natAbs:Int) / 18446744073709551616)))).setCell ⟨w.heap.size,1,none⟩ (.int .u64 ((a.natAbs:Int)*(b.natAbs:Int) % 18446744073709551616))).cell? ⟨w.heap.size,1,none⟩=some (.int .u64 ((a.natAbs:Int)*(b.natAbs:Int) % 18446744073709551616)):=
    zL _ _ _ (by rw[zK _ _ _ _ (by simp),x1];rfl)
   have hW:w.heap.size < ((w3.setCell ⟨w.heap.size,0,none⟩ (.int .i64 (wrap64 ((a.natAbs:Int)*(b.natAbs:Int) / 18446744073709551616)))).setCell ⟨w.heap.size,1,none⟩ (.int .u64 ((a.natAbs:Int)*(b.natAbs:Int) % 18446744073709551616))).heap.size:=by simpa using hlt2
   generalize (w3.setCell ⟨w.heap.size,0,none⟩ (.int .i64 (wrap64 ((a.natAbs:Int)*(b.natAbs:Int) / 18446744073709551616)))).setCell ⟨w.heap.size,1,none⟩ (.int .u64 ((a.natAbs:Int)*(b.natAbs:Int) % 18446744073709551616))=W at g0 g1 hW ⊢
   have hne:¬ w.heap.size=W.heap.size:=by omega
   simp[results,Tryz.results77,go_sem,zJ,hne,g0,g1]
  ·exact ((hB2.setCell (by simp) _).setCell (by simp) _).alloc (by simp;omega) _
end Go.Proofs.YtojkamfabapcoaaGreatDoor
