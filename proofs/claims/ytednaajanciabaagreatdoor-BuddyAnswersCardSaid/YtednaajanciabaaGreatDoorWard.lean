import Derived.Test.YtednaajanciabaaGreatDoorKPoints
set_option maxRecDepth 100000
set_option maxHeartbeats 8000000
set_option linter.unusedSimpArgs false
set_option linter.unusedVariables false
namespace Go.Proofs.YtednaajanciabaaGreatDoor
open Go.RowKit Go.Grid Go.Maps
def pv3 (p q r:Pl):Value:=.agg #[.int .i64 p.f,.int .i64 p.a,.int .i64 p.b,.int .i64 p.c,.int .i64 q.f,.int .i64 q.a,.int .i64 q.b,.int .i64 q.c,.int .i64 r.f,.int .i64 r.a,.int .i64 r.b,.int .i64 r.c]
theorem upward_any (g h:Nat) (p:Pl) (w:World) (hc:w.cell? ⟨g,1,none⟩=some (.int .i64 h)) (hh:h≤840) (h1:p.a≤840∧p.b≤840∧p.c≤840) :
  Calls Tryz.prog 114 #[.pointer (some ⟨g,0,none⟩),pv p] w fun e w'=>e=.returned (pv3 ⟨p.f,p.a+h,p.b,p.c⟩ ⟨p.f,p.a,p.b+h,p.c⟩ ⟨p.f,p.a,p.b,p.c+h⟩)∧Below w.heap.size w w':=by
 have hpv:Hid (pv p=.agg #[.int .i64 p.f,.int .i64 p.a,.int .i64 p.b,.int .i64 p.c]):=zN rfl
 rw[hpv.out]
 have hlt:g < w.heap.size:=zM w _ hc
 go_enter Tryz.func114,Tryz.ntmps114
 go_wp2
 refine RY.region RX.fN (fun w'=>w'.cell? ⟨g,1,none⟩=some (.int .i64 h)∧w'.cell? ⟨w.heap.size,0,none⟩=some (.int .i64 p.f)∧w'.cell? ⟨w.heap.size,1,none⟩=some (.int .i64 p.a)∧w'.cell? ⟨w.heap.size,2,none⟩=some (.int .i64 p.b)∧w'.cell? ⟨w.heap.size,3,none⟩=some (.int .i64 p.c)) (by kernel_rfl) (by kernel_rfl) (⟨(by (try have hLt:=zM _ _ hc);(try simp only at hLt);(repeat first|rw[zO]|rw[zK _ _ _ _ (by first|(simp<;>omega)|omega)]|rw[zJ,if_neg (by first|(simp<;>omega)|omega)]);first|exact hc|(rw[zJ,if_pos (by first|(simp;done)|omega)];exact hc)),(by simp[zO,zJ,zQ]),(by simp[zO,zJ,zQ]),(by simp[zO,zJ,zQ]),(by simp[zO,zJ,zQ])⟩) (fun OPS HO QR hQR=>?_)
 repeat (refine zeY (fun R hR=>?_);(first|refine zaY (by first|rfl|(rw[HO.out];rfl)) (by simp only[zA,zB,zC,zD];rfl) ?_|refine zbY (by first|rfl|(rw[HO.out];rfl)) rfl (by first|exact .inl rfl|exact .inr rfl) (by simp only[zE,zF,zG,zH];rfl) (by simp only[zA,zB,zC,zD];rfl) ?_|refine zcY (by first|rfl|(rw[HO.out];rfl)) rfl rfl (by simp only[zE,zF,zG,zH];rfl) (by simp only[zA,zB,zC,zD];rfl) ?_|(refine zdY (by first|rfl|(rw[HO.out];rfl)) rfl rfl rfl ?_;apply zEx;apply zEx;refine⟨fun w' hS K hK=>?_,?_,?_⟩;(focus (obtain⟨hS1,hS2,hS3,hS4,hS5⟩:=hS;go_wp2;exact hK _ _ (by simp only[zl,zG,zH];first|exact zf (by omega)|exact zg (by omega)|exact zh (by omega)|exact zi (by omega)|exact zj (by omega)|exact zk (by omega)|exact RX.bneB _|rfl) rfl));(focus (simp only[zA,zB,zC,zD];rfl))));refine hR _ _ ?_;clear hR R)
 refine zeY (fun R hR=>?_)
 refine zgY (by first|rfl|(rw[HO.out];rfl)) rfl (fun K hK=>?_)
 go_wp2_with fail
 refine (moved_any p h 0 0 (p.a+h) p.b p.c _ (by omega) (by omega) (by omega) (by omega) (by omega)).mono ?_
 rintro e w1 ⟨rfl,hb1⟩
 have a1:w1.cell? ⟨g,1,none⟩=some (.int .i64 h):=zP hb1 (by (try have hLt:=zM _ _ hc);(try simp only at hLt);(repeat first|rw[zO]|rw[zK _ _ _ _ (by first|(simp<;>omega)|omega)]|rw[zJ,if_neg (by first|(simp<;>omega)|omega)]);first|exact hc|(rw[zJ,if_pos (by first|(simp;done)|omega)];exact hc))
 have b1:w1.cell? ⟨w.heap.size,0,none⟩=some (.int .i64 p.f):=zP hb1 (by simp[zO,zJ,zQ])
 have c1:w1.cell? ⟨w.heap.size,1,none⟩=some (.int .i64 p.a):=zP hb1 (by simp[zO,zJ,zQ])
 have d1:w1.cell? ⟨w.heap.size,2,none⟩=some (.int .i64 p.b):=zP hb1 (by simp[zO,zJ,zQ])
 have e1:w1.cell? ⟨w.heap.size,3,none⟩=some (.int .i64 p.c):=zP hb1 (by simp[zO,zJ,zQ])
 have H1:Hid (∀ j,j < 12→w1.cell? ⟨w.heap.size+1,j,none⟩=some (.int .i64 0)∧w1.frozen? ⟨w.heap.size+1,j,none⟩=false):=zN fun j hj=>by
  constructor
  ·refine zP hb1 ?_
   rw[zO,zJ,if_pos (by simp)]
   have:j=0∨j=1∨j=2∨j=3∨j=4∨j=5∨j=6∨j=7∨j=8∨j=9∨j=10∨j=11:=by omega
   rcases this with rfl|rfl|rfl|rfl|rfl|rfl|rfl|rfl|rfl|rfl|rfl|rfl<;>rfl
  ·exact (hb1.frozen (by simp<;>omega)).trans (by simp[RX.frozen_drew,RX.frozen_alloc,zQ])
 have B1:Below w.heap.size w w1:=Below.trans (by repeat (first|(with_reducible first|assumption|exact zBr _ _|refine zBs ?_ (by first|omega|(simp<;>omega)) _|refine zBa ?_ (by first|omega|(simp<;>omega)) _|apply zBd)|assumption)) (hb1.mono (by simp;omega))
 have s1:w.heap.size+2≤w1.heap.size:=by have:=hb1.size;simp at this;omega
 clear hb1
 unfold pv
 refine hK _ _ ⟨.inr (⟨a1,b1,c1,d1,e1⟩),hR _ _ ?_⟩;clear hK K hR R
 repeat (refine zeY (fun R hR=>?_);(first|refine zaY (by first|rfl|(rw[HO.out];rfl)) (by simp only[zA,zB,zC,zD];rfl) ?_|refine zbY (by first|rfl|(rw[HO.out];rfl)) rfl (by first|exact .inl rfl|exact .inr rfl) (by simp only[zE,zF,zG,zH];rfl) (by simp only[zA,zB,zC,zD];rfl) ?_|refine zcY (by first|rfl|(rw[HO.out];rfl)) rfl rfl (by simp only[zE,zF,zG,zH];rfl) (by simp only[zA,zB,zC,zD];rfl) ?_|(refine zdY (by first|rfl|(rw[HO.out];rfl)) rfl rfl rfl ?_;apply zEx;apply zEx;refine⟨fun w' hS K hK=>?_,?_,?_⟩;(focus (obtain⟨hS1,hS2,hS3,hS4,hS5⟩:=hS;go_wp2;exact hK _ _ (by simp only[zl,zG,zH];first|exact zf (by omega)|exact zg (by omega)|exact zh (by omega)|exact zi (by omega)|exact zj (by omega)|exact zk (by omega)|exact RX.bneB _|rfl) rfl));(focus (simp only[zA,zB,zC,zD];rfl))));refine hR _ _ ?_;clear hR R)
 refine zeY (fun R hR=>?_)
 refine zgY (by first|rfl|(rw[HO.out];rfl)) rfl (fun K hK=>?_)
 go_wp2_with fail
 refine (moved_any p 0 h 0 p.a (p.b+h) p.c _ (by omega) (by omega) (by omega) (by omega) (by omega)).mono ?_
 rintro e w2 ⟨rfl,hb2⟩
 have a2:=zP hb2 a1
 have b2:=zP hb2 b1
 have c2:=zP hb2 c1
 have d2:=zP hb2 d1
 have e2:=zP hb2 e1
 have H2:Hid (∀ j,j < 12→w2.cell? ⟨w.heap.size+1,j,none⟩=some (.int .i64 0)∧w2.frozen? ⟨w.heap.size+1,j,none⟩=false):=zN fun j hj=>
  ⟨zP hb2 (H1.out j hj).1,(hb2.frozen (p:=⟨w.heap.size+1,j,none⟩) (show w.heap.size+1 < w1.heap.size by omega)).trans (H1.out j hj).2⟩
 have B2:Below w.heap.size w w2:=B1.trans (hb2.mono (by omega))
 have s2:w.heap.size+2≤w2.heap.size:=by have:=hb2.size;omega
 clear hb2 B1 s1 a1 b1 c1 d1 e1 H1
 unfold pv
 refine hK _ _ ⟨.inr (⟨a2,b2,c2,d2,e2⟩),hR _ _ ?_⟩;clear hK K hR R
 repeat (refine zeY (fun R hR=>?_);(first|refine zaY (by first|rfl|(rw[HO.out];rfl)) (by simp only[zA,zB,zC,zD];rfl) ?_|refine zbY (by first|rfl|(rw[HO.out];rfl)) rfl (by first|exact .inl rfl|exact .inr rfl) (by simp only[zE,zF,zG,zH];rfl) (by simp only[zA,zB,zC,zD];rfl) ?_|refine zcY (by first|rfl|(rw[HO.out];rfl)) rfl rfl (by simp only[zE,zF,zG,zH];rfl) (by simp only[zA,zB,zC,zD];rfl) ?_|(refine zdY (by first|rfl|(rw[HO.out];rfl)) rfl rfl rfl ?_;apply zEx;apply zEx;refine⟨fun w' hS K hK=>?_,?_,?_⟩;(focus (obtain⟨hS1,hS2,hS3,hS4,hS5⟩:=hS;go_wp2;exact hK _ _ (by simp only[zl,zG,zH];first|exact zf (by omega)|exact zg (by omega)|exact zh (by omega)|exact zi (by omega)|exact zj (by omega)|exact zk (by omega)|exact RX.bneB _|rfl) rfl));(focus (simp only[zA,zB,zC,zD];rfl))));refine hR _ _ ?_;clear hR R)
 refine zeY (fun R hR=>?_)
 refine zgY (by first|rfl|(rw[HO.out];rfl)) rfl (fun K hK=>?_)
 go_wp2_with fail
 refine (moved_any p 0 0 h p.a p.b (p.c+h) _ (by omega) (by omega) (by omega) (by omega) (by omega)).mono ?_
 rintro e w3 ⟨rfl,hb3⟩
 have a3:=zP hb3 a2
 have b3:=zP hb3 b2
 have c3:=zP hb3 c2
 have d3:=zP hb3 d2
 have e3:=zP hb3 e2
 have H3:Hid (∀ j,j < 12→w3.cell? ⟨w.heap.size+1,j,none⟩=some (.int .i64 0)∧w3.frozen? ⟨w.heap.size+1,j,none⟩=false):=zN fun j hj=>
  ⟨zP hb3 (H2.out j hj).1,(hb3.frozen (p:=⟨w.heap.size+1,j,none⟩) (show w.heap.size+1 < w2.heap.size by omega)).trans (H2.out j hj).2⟩
 have B3:Below w.heap.size w w3:=B2.trans (hb3.mono (by omega))
 have s3:w.heap.size+2≤w3.heap.size:=by have:=hb3.size;omega
 clear hb3 B2 s2 a2 b2 c2 d2 e2 H2
 unfold pv
 refine hK _ _ ⟨.inr (⟨a3,b3,c3,d3,e3⟩),hR _ _ ?_⟩;clear hK K hR R
 repeat (refine zeY (fun R hR=>?_);(first|refine zaY (by first|rfl|(rw[HO.out];rfl)) (by simp only[zA,zB,zC,zD];rfl) ?_|refine zbY (by first|rfl|(rw[HO.out];rfl)) rfl (by first|exact .inl rfl|exact .inr rfl) (by simp only[zE,zF,zG,zH];rfl) (by simp only[zA,zB,zC,zD];rfl) ?_|refine zcY (by first|rfl|(rw[HO.out];rfl)) rfl rfl (by simp only[zE,zF,zG,zH];rfl) (by simp only[zA,zB,zC,zD];rfl) ?_|(refine zdY (by first|rfl|(rw[HO.out];rfl)) rfl rfl rfl ?_;apply zEx;apply zEx;refine⟨fun w' hS K hK=>?_,?_,?_⟩;(focus (obtain⟨hS1,hS2,hS3,hS4,hS5⟩:=hS;go_wp2;exact hK _ _ (by simp only[zl,zG,zH];first|exact zf (by omega)|exact zg (by omega)|exact zh (by omega)|exact zi (by omega)|exact zj (by omega)|exact zk (by omega)|exact RX.bneB _|rfl) rfl));(focus (simp only[zA,zB,zC,zD];rfl))));refine hR _ _ ?_;clear hR R)
 refine zeY (fun R hR=>?_)
 refine zgY (by first|rfl|(rw[HO.out];rfl)) rfl (fun K hK=>?_)
 have BH:=zN B3
 clear B3 a3 b3 c3 d3 e3
 obtain⟨q0,f0⟩:=H3.out 0 (by omega)
 obtain⟨q1,f1⟩:=H3.out 1 (by omega)
 obtain⟨q2,f2⟩:=H3.out 2 (by omega)
 obtain⟨q3,f3⟩:=H3.out 3 (by omega)
 obtain⟨q4,f4⟩:=H3.out 4 (by omega)
 obtain⟨q5,f5⟩:=H3.out 5 (by omega)
 obtain⟨q6,f6⟩:=H3.out 6 (by omega)
 obtain⟨q7,f7⟩:=H3.out 7 (by omega)
 obtain⟨q8,f8⟩:=H3.out 8 (by omega)
 obtain⟨q9,f9⟩:=H3.out 9 (by omega)
 obtain⟨q10,f10⟩:=H3.out 10 (by omega)
 obtain⟨q11,f11⟩:=H3.out 11 (by omega)
 go_wp2
 first|refine⟨(by first|exact .inl rfl|exact .inl trivial|trivial),hR _ _ (RY.wpL_nil (hQR _ _ ?_))⟩|refine hR _ _ (RY.wpL_nil (hQR _ _ ?_))|refine hQR _ _ ?_
 (try clear hR);(try clear R);clear hQR QR HO OPS
 clear f0 f1 f2 f3 f4 f5 f6 f7 f8 f9 f10 f11
 go_wp2
 refine bodyPost_ret (v:=pv3 ⟨p.f,p.a+h,p.b,p.c⟩ ⟨p.f,p.a,p.b+h,p.c⟩ ⟨p.f,p.a,p.b,p.c+h⟩) ?_ rfl ⟨rfl,?_⟩
 ·simp[results,Tryz.results114,go_sem,pv3,q0,q1,q2,q3,q4,q5,q6,q7,q8,q9,q10,q11]
 ·have hB:=BH.out
  clear q0 q1 q2 q3 q4 q5 q6 q7 q8 q9 q10 q11
  iterate 12 refine zBs ?_ (Nat.le_succ _) _
  exact hB
theorem downward_any (g h:Nat) (p:Pl) (w:World) (hc:w.cell? ⟨g,1,none⟩=some (.int .i64 h)) (hh:h≤840) (h1:p.a≤840∧p.b≤840∧p.c≤840) :
  Calls Tryz.prog 115 #[.pointer (some ⟨g,0,none⟩),pv p] w fun e w'=>e=.returned (pv3 ⟨p.f,p.a,p.b+h,p.c+h⟩ ⟨p.f,p.a+h,p.b,p.c+h⟩ ⟨p.f,p.a+h,p.b+h,p.c⟩)∧Below w.heap.size w w':=by
 have hpv:Hid (pv p=.agg #[.int .i64 p.f,.int .i64 p.a,.int .i64 p.b,.int .i64 p.c]):=zN rfl
 rw[hpv.out]
 have hlt:g < w.heap.size:=zM w _ hc
 go_enter Tryz.func115,Tryz.ntmps115
 go_wp2
 refine RY.region RX.fN (fun w'=>w'.cell? ⟨g,1,none⟩=some (.int .i64 h)∧w'.cell? ⟨w.heap.size,0,none⟩=some (.int .i64 p.f)∧w'.cell? ⟨w.heap.size,1,none⟩=some (.int .i64 p.a)∧w'.cell? ⟨w.heap.size,2,none⟩=some (.int .i64 p.b)∧w'.cell? ⟨w.heap.size,3,none⟩=some (.int .i64 p.c)) (by kernel_rfl) (by kernel_rfl) (⟨(by (try have hLt:=zM _ _ hc);(try simp only at hLt);(repeat first|rw[zO]|rw[zK _ _ _ _ (by first|(simp<;>omega)|omega)]|rw[zJ,if_neg (by first|(simp<;>omega)|omega)]);first|exact hc|(rw[zJ,if_pos (by first|(simp;done)|omega)];exact hc)),(by simp[zO,zJ,zQ]),(by simp[zO,zJ,zQ]),(by simp[zO,zJ,zQ]),(by simp[zO,zJ,zQ])⟩) (fun OPS HO QR hQR=>?_)
 repeat (refine zeY (fun R hR=>?_);(first|refine zaY (by first|rfl|(rw[HO.out];rfl)) (by simp only[zA,zB,zC,zD];rfl) ?_|refine zbY (by first|rfl|(rw[HO.out];rfl)) rfl (by first|exact .inl rfl|exact .inr rfl) (by simp only[zE,zF,zG,zH];rfl) (by simp only[zA,zB,zC,zD];rfl) ?_|refine zcY (by first|rfl|(rw[HO.out];rfl)) rfl rfl (by simp only[zE,zF,zG,zH];rfl) (by simp only[zA,zB,zC,zD];rfl) ?_|(refine zdY (by first|rfl|(rw[HO.out];rfl)) rfl rfl rfl ?_;apply zEx;apply zEx;refine⟨fun w' hS K hK=>?_,?_,?_⟩;(focus (obtain⟨hS1,hS2,hS3,hS4,hS5⟩:=hS;go_wp2;exact hK _ _ (by simp only[zl,zG,zH];first|exact zf (by omega)|exact zg (by omega)|exact zh (by omega)|exact zi (by omega)|exact zj (by omega)|exact zk (by omega)|exact RX.bneB _|rfl) rfl));(focus (simp only[zA,zB,zC,zD];rfl))));refine hR _ _ ?_;clear hR R)
 refine zeY (fun R hR=>?_)
 refine zgY (by first|rfl|(rw[HO.out];rfl)) rfl (fun K hK=>?_)
 go_wp2_with fail
 refine (moved_any p 0 h h p.a (p.b+h) (p.c+h) _ (by omega) (by omega) (by omega) (by omega) (by omega)).mono ?_
 rintro e w1 ⟨rfl,hb1⟩
 have a1:w1.cell? ⟨g,1,none⟩=some (.int .i64 h):=zP hb1 (by (try have hLt:=zM _ _ hc);(try simp only at hLt);(repeat first|rw[zO]|rw[zK _ _ _ _ (by first|(simp<;>omega)|omega)]|rw[zJ,if_neg (by first|(simp<;>omega)|omega)]);first|exact hc|(rw[zJ,if_pos (by first|(simp;done)|omega)];exact hc))
 have b1:w1.cell? ⟨w.heap.size,0,none⟩=some (.int .i64 p.f):=zP hb1 (by simp[zO,zJ,zQ])
 have c1:w1.cell? ⟨w.heap.size,1,none⟩=some (.int .i64 p.a):=zP hb1 (by simp[zO,zJ,zQ])
 have d1:w1.cell? ⟨w.heap.size,2,none⟩=some (.int .i64 p.b):=zP hb1 (by simp[zO,zJ,zQ])
 have e1:w1.cell? ⟨w.heap.size,3,none⟩=some (.int .i64 p.c):=zP hb1 (by simp[zO,zJ,zQ])
 have H1:Hid (∀ j,j < 12→w1.cell? ⟨w.heap.size+1,j,none⟩=some (.int .i64 0)∧w1.frozen? ⟨w.heap.size+1,j,none⟩=false):=zN fun j hj=>by
  constructor
  ·refine zP hb1 ?_
   rw[zO,zJ,if_pos (by simp)]
   have:j=0∨j=1∨j=2∨j=3∨j=4∨j=5∨j=6∨j=7∨j=8∨j=9∨j=10∨j=11:=by omega
   rcases this with rfl|rfl|rfl|rfl|rfl|rfl|rfl|rfl|rfl|rfl|rfl|rfl<;>rfl
  ·exact (hb1.frozen (by simp<;>omega)).trans (by simp[RX.frozen_drew,RX.frozen_alloc,zQ])
 have B1:Below w.heap.size w w1:=Below.trans (by repeat (first|(with_reducible first|assumption|exact zBr _ _|refine zBs ?_ (by first|omega|(simp<;>omega)) _|refine zBa ?_ (by first|omega|(simp<;>omega)) _|apply zBd)|assumption)) (hb1.mono (by simp;omega))
 have s1:w.heap.size+2≤w1.heap.size:=by have:=hb1.size;simp at this;omega
 clear hb1
 unfold pv
 refine hK _ _ ⟨.inr (⟨a1,b1,c1,d1,e1⟩),hR _ _ ?_⟩;clear hK K hR R
 repeat (refine zeY (fun R hR=>?_);(first|refine zaY (by first|rfl|(rw[HO.out];rfl)) (by simp only[zA,zB,zC,zD];rfl) ?_|refine zbY (by first|rfl|(rw[HO.out];rfl)) rfl (by first|exact .inl rfl|exact .inr rfl) (by simp only[zE,zF,zG,zH];rfl) (by simp only[zA,zB,zC,zD];rfl) ?_|refine zcY (by first|rfl|(rw[HO.out];rfl)) rfl rfl (by simp only[zE,zF,zG,zH];rfl) (by simp only[zA,zB,zC,zD];rfl) ?_|(refine zdY (by first|rfl|(rw[HO.out];rfl)) rfl rfl rfl ?_;apply zEx;apply zEx;refine⟨fun w' hS K hK=>?_,?_,?_⟩;(focus (obtain⟨hS1,hS2,hS3,hS4,hS5⟩:=hS;go_wp2;exact hK _ _ (by simp only[zl,zG,zH];first|exact zf (by omega)|exact zg (by omega)|exact zh (by omega)|exact zi (by omega)|exact zj (by omega)|exact zk (by omega)|exact RX.bneB _|rfl) rfl));(focus (simp only[zA,zB,zC,zD];rfl))));refine hR _ _ ?_;clear hR R)
 refine zeY (fun R hR=>?_)
 refine zgY (by first|rfl|(rw[HO.out];rfl)) rfl (fun K hK=>?_)
 go_wp2_with fail
 refine (moved_any p h 0 h (p.a+h) p.b (p.c+h) _ (by omega) (by omega) (by omega) (by omega) (by omega)).mono ?_
 rintro e w2 ⟨rfl,hb2⟩
 have a2:=zP hb2 a1
 have b2:=zP hb2 b1
 have c2:=zP hb2 c1
 have d2:=zP hb2 d1
 have e2:=zP hb2 e1
 have H2:Hid (∀ j,j < 12→w2.cell? ⟨w.heap.size+1,j,none⟩=some (.int .i64 0)∧w2.frozen? ⟨w.heap.size+1,j,none⟩=false):=zN fun j hj=>
  ⟨zP hb2 (H1.out j hj).1,(hb2.frozen (p:=⟨w.heap.size+1,j,none⟩) (show w.heap.size+1 < w1.heap.size by omega)).trans (H1.out j hj).2⟩
 have B2:Below w.heap.size w w2:=B1.trans (hb2.mono (by omega))
 have s2:w.heap.size+2≤w2.heap.size:=by have:=hb2.size;omega
 clear hb2 B1 s1 a1 b1 c1 d1 e1 H1
 unfold pv
 refine hK _ _ ⟨.inr (⟨a2,b2,c2,d2,e2⟩),hR _ _ ?_⟩;clear hK K hR R
 repeat (refine zeY (fun R hR=>?_);(first|refine zaY (by first|rfl|(rw[HO.out];rfl)) (by simp only[zA,zB,zC,zD];rfl) ?_|refine zbY (by first|rfl|(rw[HO.out];rfl)) rfl (by first|exact .inl rfl|exact .inr rfl) (by simp only[zE,zF,zG,zH];rfl) (by simp only[zA,zB,zC,zD];rfl) ?_|refine zcY (by first|rfl|(rw[HO.out];rfl)) rfl rfl (by simp only[zE,zF,zG,zH];rfl) (by simp only[zA,zB,zC,zD];rfl) ?_|(refine zdY (by first|rfl|(rw[HO.out];rfl)) rfl rfl rfl ?_;apply zEx;apply zEx;refine⟨fun w' hS K hK=>?_,?_,?_⟩;(focus (obtain⟨hS1,hS2,hS3,hS4,hS5⟩:=hS;go_wp2;exact hK _ _ (by simp only[zl,zG,zH];first|exact zf (by omega)|exact zg (by omega)|exact zh (by omega)|exact zi (by omega)|exact zj (by omega)|exact zk (by omega)|exact RX.bneB _|rfl) rfl));(focus (simp only[zA,zB,zC,zD];rfl))));refine hR _ _ ?_;clear hR R)
 refine zeY (fun R hR=>?_)
 refine zgY (by first|rfl|(rw[HO.out];rfl)) rfl (fun K hK=>?_)
 go_wp2_with fail
 refine (moved_any p h h 0 (p.a+h) (p.b+h) p.c _ (by omega) (by omega) (by omega) (by omega) (by omega)).mono ?_
 rintro e w3 ⟨rfl,hb3⟩
 have a3:=zP hb3 a2
 have b3:=zP hb3 b2
 have c3:=zP hb3 c2
 have d3:=zP hb3 d2
 have e3:=zP hb3 e2
 have H3:Hid (∀ j,j < 12→w3.cell? ⟨w.heap.size+1,j,none⟩=some (.int .i64 0)∧w3.frozen? ⟨w.heap.size+1,j,none⟩=false):=zN fun j hj=>
  ⟨zP hb3 (H2.out j hj).1,(hb3.frozen (p:=⟨w.heap.size+1,j,none⟩) (show w.heap.size+1 < w2.heap.size by omega)).trans (H2.out j hj).2⟩
 have B3:Below w.heap.size w w3:=B2.trans (hb3.mono (by omega))
 have s3:w.heap.size+2≤w3.heap.size:=by have:=hb3.size;omega
 clear hb3 B2 s2 a2 b2 c2 d2 e2 H2
 unfold pv
 refine hK _ _ ⟨.inr (⟨a3,b3,c3,d3,e3⟩),hR _ _ ?_⟩;clear hK K hR R
 repeat (refine zeY (fun R hR=>?_);(first|refine zaY (by first|rfl|(rw[HO.out];rfl)) (by simp only[zA,zB,zC,zD];rfl) ?_|refine zbY (by first|rfl|(rw[HO.out];rfl)) rfl (by first|exact .inl rfl|exact .inr rfl) (by simp only[zE,zF,zG,zH];rfl) (by simp only[zA,zB,zC,zD];rfl) ?_|refine zcY (by first|rfl|(rw[HO.out];rfl)) rfl rfl (by simp only[zE,zF,zG,zH];rfl) (by simp only[zA,zB,zC,zD];rfl) ?_|(refine zdY (by first|rfl|(rw[HO.out];rfl)) rfl rfl rfl ?_;apply zEx;apply zEx;refine⟨fun w' hS K hK=>?_,?_,?_⟩;(focus (obtain⟨hS1,hS2,hS3,hS4,hS5⟩:=hS;go_wp2;exact hK _ _ (by simp only[zl,zG,zH];first|exact zf (by omega)|exact zg (by omega)|exact zh (by omega)|exact zi (by omega)|exact zj (by omega)|exact zk (by omega)|exact RX.bneB _|rfl) rfl));(focus (simp only[zA,zB,zC,zD];rfl))));refine hR _ _ ?_;clear hR R)
 refine zeY (fun R hR=>?_)
 refine zgY (by first|rfl|(rw[HO.out];rfl)) rfl (fun K hK=>?_)
 have BH:=zN B3
 clear B3 a3 b3 c3 d3 e3
 obtain⟨q0,f0⟩:=H3.out 0 (by omega)
 obtain⟨q1,f1⟩:=H3.out 1 (by omega)
 obtain⟨q2,f2⟩:=H3.out 2 (by omega)
 obtain⟨q3,f3⟩:=H3.out 3 (by omega)
 obtain⟨q4,f4⟩:=H3.out 4 (by omega)
 obtain⟨q5,f5⟩:=H3.out 5 (by omega)
 obtain⟨q6,f6⟩:=H3.out 6 (by omega)
 obtain⟨q7,f7⟩:=H3.out 7 (by omega)
 obtain⟨q8,f8⟩:=H3.out 8 (by omega)
 obtain⟨q9,f9⟩:=H3.out 9 (by omega)
 obtain⟨q10,f10⟩:=H3.out 10 (by omega)
 obtain⟨q11,f11⟩:=H3.out 11 (by omega)
 go_wp2
 first|refine⟨(by first|exact .inl rfl|exact .inl trivial|trivial),hR _ _ (RY.wpL_nil (hQR _ _ ?_))⟩|refine hR _ _ (RY.wpL_nil (hQR _ _ ?_))|refine hQR _ _ ?_
 (try clear hR);(try clear R);clear hQR QR HO OPS
 clear f0 f1 f2 f3 f4 f5 f6 f7 f8 f9 f10 f11
 go_wp2
 refine bodyPost_ret (v:=pv3 ⟨p.f,p.a,p.b+h,p.c+h⟩ ⟨p.f,p.a+h,p.b,p.c+h⟩ ⟨p.f,p.a+h,p.b+h,p.c⟩) ?_ rfl ⟨rfl,?_⟩
 ·simp[results,Tryz.results115,go_sem,pv3,q0,q1,q2,q3,q4,q5,q6,q7,q8,q9,q10,q11]
 ·have hB:=BH.out
  clear q0 q1 q2 q3 q4 q5 q6 q7 q8 q9 q10 q11
  iterate 12 refine zBs ?_ (Nat.le_succ _) _
  exact hB
end Go.Proofs.YtednaajanciabaaGreatDoor
