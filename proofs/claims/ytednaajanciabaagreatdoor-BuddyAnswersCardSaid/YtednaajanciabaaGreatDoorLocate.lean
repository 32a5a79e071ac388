import Derived.Test.YtednaajanciabaaGreatDoorSortS
import Derived.Test.YtednaajanciabaaGreatDoorWard
import Derived.Test.YtednaajanciabaaGreatDoorKSrc
import Derived.Test.YtednaajanciabaaGreatDoorKRegion
import Derived.Test.YtednaajanciabaaGreatDoorKFreq
import Derived.Test.YtednaajanciabaaGreatDoorKEdges
import Derived.Deep.DeepCutAuto
set_option maxRecDepth 100000
set_option maxHeartbeats 8000000
set_option linter.unusedSimpArgs false
set_option linter.unusedVariables false
namespace Go.Proofs.YtednaajanciabaaGreatDoor
open Go.RowKit Go.Sort Go.Shelf Go.Grid
theorem elSh:RX.ElemOf Tryz.prog 119 123 (.agg #[.int .i64 0,.int .i64 0]) 2 16:=⟨Tryz.underlying119,by kernel_rfl,rfl,by decide⟩
theorem locate_any (g n base:Nat) (p:Pl) (w:World) (hT:HasTab w) (hN:NetAt w g n base (nodesL n)) (hp:p.Ok) (h1:1≤n) (h8:n≤8) :
  Calls Tryz.prog 92 #[.pointer (some ⟨g,0,none⟩),pv p] w fun e w'=>∃ (b cap:Nat) (S:List (Nat × Nat)),e=.returned (.slice (some ⟨b,0,none⟩) S.length cap)∧S.length≤cap∧S.Perm (locRaw n p)∧Asc S∧SharesAt w' b S∧Below w.heap.size w w':=by
 have hn840:=hh_mul h1 h8
 have hh1:1≤hh n:=hh_pos h1 (by omega)
 have hrs:=rem_sum h1 hn840 hp
 have ra:=rem_le (a:=p.a) h1 hn840
 have rb:=rem_le (a:=p.b) h1 hn840
 have rc:=rem_le (a:=p.c) h1 hn840
 have ma:=Nat.mod_le p.a (hh n)
 have mb:=Nat.mod_le p.b (hh n)
 have mc:=Nat.mod_le p.c (hh n)
 have la:=Nat.mod_lt p.a hh1
 have lb:=Nat.mod_lt p.b hh1
 have lc:=Nat.mod_lt p.c hh1
 have hs:=hp.s
 have hh8:hh n≤840:=Nat.div_le_self _ _
 have HRAW:Hid (locRaw n p=((locAll n p).filter (fun c=>decide (0 < c.2))).map (fun c=>(atL n c.1,c.2))):=zN rfl
 have HALL:Hid (locAll n p=if p.a % hh n*n+p.b % hh n*n+p.c % hh n*n=0 then [(p,840)]
  else if p.a % hh n*n+p.b % hh n*n+p.c % hh n*n=840 then
   [(⟨p.f,p.a-p.a % hh n+hh n,p.b-p.b % hh n,p.c-p.c % hh n⟩,p.a % hh n*n),(⟨p.f,p.a-p.a % hh n,p.b-p.b % hh n+hh n,p.c-p.c % hh n⟩,p.b % hh n*n),(⟨p.f,p.a-p.a % hh n,p.b-p.b % hh n,p.c-p.c % hh n+hh n⟩,p.c % hh n*n)]
  else
   [(⟨p.f,p.a-p.a % hh n,p.b-p.b % hh n+hh n,p.c-p.c % hh n+hh n⟩,840-p.a % hh n*n),(⟨p.f,p.a-p.a % hh n+hh n,p.b-p.b % hh n,p.c-p.c % hh n+hh n⟩,840-p.b % hh n*n),(⟨p.f,p.a-p.a % hh n+hh n,p.b-p.b % hh n+hh n,p.c-p.c % hh n⟩,840-p.c % hh n*n)]):=zN rfl
 have HOK:=zN (loc_ok h1 hn840 hp)
 have HDI:=zN (loc_distinct h1 (by omega) hn840 hp)
 have HP:=zN hp
 have hch:=hN.ch
 have hcn:=hN.cn
 obtain⟨h,hhe⟩:∃ h,h=hh n:=⟨_,rfl⟩
 rw[←hhe] at hch HALL hh1 hh8 hrs ra rb rc ma mb mc la lb lc
 have HH:=zN hhe
 have ta:(p.a:Int).tmod (h:Int)=((p.a % h:Nat):Int):=by rw[Int.tmod_eq_emod_of_nonneg (by omega)];rfl
 have tb:(p.b:Int).tmod (h:Int)=((p.b % h:Nat):Int):=by rw[Int.tmod_eq_emod_of_nonneg (by omega)];rfl
 have tc:(p.c:Int).tmod (h:Int)=((p.c % h:Nat):Int):=by rw[Int.tmod_eq_emod_of_nonneg (by omega)];rfl
 generalize p.a % h=xa at *
 generalize p.b % h=xb at *
 generalize p.c % h=xc at *
 have ea:(xa:Int)*(n:Int)=((xa*n:Nat):Int):=by rw[Int.natCast_mul]
 have eb:(xb:Int)*(n:Int)=((xb*n:Nat):Int):=by rw[Int.natCast_mul]
 have ec:(xc:Int)*(n:Int)=((xc*n:Nat):Int):=by rw[Int.natCast_mul]
 generalize xa*n=x at *
 generalize xb*n=y at *
 generalize xc*n=z at *
 have hhb:((h:Int) == 0)=false:=by rw[beq_eq_false_iff_ne];omega
 have hpv:Hid (pv p=.agg #[.int .i64 p.f,.int .i64 p.a,.int .i64 p.b,.int .i64 p.c]):=zN rfl
 have hf20:=hp.f
 have hgl:=hN.hb
 rw[hpv.out]
 clear hhe hp
 obtain⟨pf,pa,pb,pc⟩:=p
 dsimp only at *
 go_enter Tryz.func92,Tryz.ntmps92
 go_wp2
 have k0:(w.alloc (.cells #[.int .i64 pf,.int .i64 pa,.int .i64 pb,.int .i64 pc] 41)).cell? ⟨w.heap.size,0,none⟩=some (.int .i64 pf):=(by simp[zO,zJ,zQ])
 have k1:(w.alloc (.cells #[.int .i64 pf,.int .i64 pa,.int .i64 pb,.int .i64 pc] 41)).cell? ⟨w.heap.size,1,none⟩=some (.int .i64 pa):=(by simp[zO,zJ,zQ])
 have k2:(w.alloc (.cells #[.int .i64 pf,.int .i64 pa,.int .i64 pb,.int .i64 pc] 41)).cell? ⟨w.heap.size,2,none⟩=some (.int .i64 pb):=(by simp[zO,zJ,zQ])
 have k3:(w.alloc (.cells #[.int .i64 pf,.int .i64 pa,.int .i64 pb,.int .i64 pc] 41)).cell? ⟨w.heap.size,3,none⟩=some (.int .i64 pc):=(by simp[zO,zJ,zQ])
 have hb0:=(zBr w.heap.size w).alloc (Nat.le_refl _) (.cells #[.int .i64 pf,.int .i64 pa,.int .i64 pb,.int .i64 pc] 41)
 have hN0:=hN.below hb0
 replace hch:=zP hb0 hch
 replace hcn:=zP hb0 hcn
 clear hN
 generalize (w.alloc (.cells #[.int .i64 pf,.int .i64 pa,.int .i64 pb,.int .i64 pc] 41))=W0 at *
 refine RX.region RX.fN (fun w'=>w'=_) (by kernel_rfl) (by kernel_rfl) rfl (fun OPS HO QR hQR=>?_)
 repeat (refine zeX (fun R hR=>?_);(first|refine zaX (by first|rfl|(rw[HO.out];rfl)) (by simp only[zA,zB,zC,zD];rfl) ?_|refine zbX (by first|rfl|(rw[HO.out];rfl)) rfl (by first|exact .inl rfl|exact .inr rfl) (by simp only[zE,zF,zG,zH];rfl) (by simp only[zA,zB,zC,zD];rfl) ?_|refine zcX (by first|rfl|(rw[HO.out];rfl)) rfl rfl (by simp only[zE,zF,zG,zH];rfl) (by simp only[zA,zB,zC,zD];rfl) ?_|(refine zdX (by first|rfl|(rw[HO.out];rfl)) rfl rfl rfl ?_;apply zEx;apply zEx;refine⟨fun w' hS K hK=>?_,?_,?_⟩;(focus (subst hS;go_wp2;exact hK _ _ (by simp only[zl,zG,zH];first|exact zf (by omega)|exact zg (by omega)|exact zh (by omega)|exact zi (by omega)|exact zj (by omega)|exact zk (by omega)|exact RX.bneB _|rfl) rfl));(focus (simp only[zA,zB,zC,zD];rfl))));refine hR _ _ ?_;clear hR R)
 refine RX.wpL_nil (hQR _ _ rfl ?_);clear hQR QR HO OPS
 go_wp2
 have HB0:=zN (And.intro hb0 hN0)
 have hPl:w.heap.size < W0.heap.size:=zM _ _ k0
 have hgl0:g < W0.heap.size:=zM _ _ hch
 clear hb0 hN0 hcn
 go_cut [8] from 50 to 75 (fun s wc=>∃ o,s=.pointer (some ⟨o,0,none⟩)∧W0.heap.size≤o∧PlAt wc o pf ((pa-xa:Nat):Int) ((pb-xb:Nat):Int) ((pc-xc:Nat):Int)∧Below W0.heap.size W0 wc)
 case first=>
  refine RX.regionF2 RX.fN (fun w'=>w'.cell? ⟨w.heap.size,0,none⟩=some (.int .i64 pf)∧w'.cell? ⟨w.heap.size,1,none⟩=some (.int .i64 pa)∧w'.cell? ⟨w.heap.size,2,none⟩=some (.int .i64 pb)∧w'.cell? ⟨w.heap.size,3,none⟩=some (.int .i64 pc)∧w'.cell? ⟨g,1,none⟩=some (.int .i64 h)) [[0,1,2,3,4,5,6,7,8,9,10,11,12,13,14,15,16,17,18,19,20,21,22,23,24,25,26,27],[0,1,2,3,4,5,6,7,8,9,10,11,12,13,14,15,16,17,18,19,20,21,22,23,24,26,25,27]] (by kernel_rfl) (by kernel_rfl) (⟨k0,k1,k2,k3,hch⟩) (fun OPS HO QR hQR=>?_)
  refine List.forall_mem_cons.2 ⟨?_,List.forall_mem_cons.2 ⟨?_,fun _ h=>(by cases h)⟩⟩
  ·
   simp only[RX.pick,RX.nth,List.map_cons,List.map_nil,List.getD_cons_zero,List.getD_cons_succ]
   repeat (refine zeX (fun R hR=>?_);(first|refine zaX (by first|rfl|(rw[HO.out];rfl)) (by simp only[zA,zB,zC,zD];rfl) ?_|refine zbX (by first|rfl|(rw[HO.out];rfl)) rfl (by first|exact .inl rfl|exact .inr rfl) (by simp only[zE,zF,zG,zH];rfl) (by simp only[zA,zB,zC,zD];rfl) ?_|refine zcX (by first|rfl|(rw[HO.out];rfl)) rfl rfl (by simp only[zE,zF,zG,zH];rfl) (by simp only[zA,zB,zC,zD];rfl) ?_|(refine zdX (by first|rfl|(rw[HO.out];rfl)) rfl rfl rfl ?_;apply zEx;apply zEx;refine⟨fun w' hS K hK=>?_,?_,?_⟩;(focus (obtain⟨hS1,hS2,hS3,hS4,hS5⟩:=hS;go_wp2;exact hK _ _ (by simp only[zl,zG,zH];first|exact zf (by omega)|exact zg (by omega)|exact zh (by omega)|exact zi (by omega)|exact zj (by omega)|exact zk (by omega)|exact RX.bneB _|rfl) rfl));(focus (simp only[zA,zB,zC,zD];rfl))));refine hR _ _ ?_;clear hR R)
   refine zeX (fun R hR=>?_)
   refine zgX (by first|rfl|(rw[HO.out];rfl)) rfl (fun K hK=>?_)
   go_wp2_with fail
   refine (moved_any ⟨pf,pa,pb,pc⟩ (-(xa:Int)) (-(xb:Int)) (-(xc:Int)) (pa-xa) (pb-xb) (pc-xc) _ (by dsimp only;omega) (by dsimp only;omega) (by dsimp only;omega) (by dsimp only;omega) (by omega)).mono ?_
   rintro e w1 ⟨rfl,hb1⟩
   replace hb1:Below W0.heap.size W0 w1:=⟨hb1.os,hb1.tape,hb1.output,hb1.size,hb1.block⟩
   replace k0:=zP hb1 k0
   replace k1:=zP hb1 k1
   replace k2:=zP hb1 k2
   replace k3:=zP hb1 k3
   replace hch:=zP hb1 hch
   have hs1:=hb1.size
   dsimp only[pv]
   refine hK _ _ ⟨⟨k0,k1,k2,k3,hch⟩,hR _ _ ?_⟩;clear hK K hR R
   repeat (refine zeX (fun R hR=>?_);(first|refine zaX (by first|rfl|(rw[HO.out];rfl)) (by simp only[zA,zB,zC,zD];rfl) ?_|refine zbX (by first|rfl|(rw[HO.out];rfl)) rfl (by first|exact .inl rfl|exact .inr rfl) (by simp only[zE,zF,zG,zH];rfl) (by simp only[zA,zB,zC,zD];rfl) ?_|refine zcX (by first|rfl|(rw[HO.out];rfl)) rfl rfl (by simp only[zE,zF,zG,zH];rfl) (by simp only[zA,zB,zC,zD];rfl) ?_|(refine zdX (by first|rfl|(rw[HO.out];rfl)) rfl rfl rfl ?_;apply zEx;apply zEx;refine⟨fun w' hS K hK=>?_,?_,?_⟩;(focus (obtain⟨hS1,hS2,hS3,hS4,hS5⟩:=hS;go_wp2;exact hK _ _ (by simp only[zl,zG,zH];first|exact zf (by omega)|exact zg (by omega)|exact zh (by omega)|exact zi (by omega)|exact zj (by omega)|exact zk (by omega)|exact RX.bneB _|rfl) rfl));(focus (simp only[zA,zB,zC,zD];rfl))));refine hR _ _ ?_;clear hR R)
   refine zeX (fun R hR=>?_)
   refine zgX (by first|rfl|(rw[HO.out];rfl)) rfl (fun K hK=>?_)
   go_wp2
   refine⟨⟨(by (try have hLt:=zM _ _ k0);(try simp only at hLt);(repeat first|rw[zO]|rw[zK _ _ _ _ (by first|(simp<;>omega)|omega)]|rw[zJ,if_neg (by first|(simp<;>omega)|omega)]);first|exact k0|(rw[zJ,if_pos (by first|(simp;done)|omega)];exact k0)),(by (try have hLt:=zM _ _ k1);(try simp only at hLt);(repeat first|rw[zO]|rw[zK _ _ _ _ (by first|(simp<;>omega)|omega)]|rw[zJ,if_neg (by first|(simp<;>omega)|omega)]);first|exact k1|(rw[zJ,if_pos (by first|(simp;done)|omega)];exact k1)),(by (try have hLt:=zM _ _ k2);(try simp only at hLt);(repeat first|rw[zO]|rw[zK _ _ _ _ (by first|(simp<;>omega)|omega)]|rw[zJ,if_neg (by first|(simp<;>omega)|omega)]);first|exact k2|(rw[zJ,if_pos (by first|(simp;done)|omega)];exact k2)),(by (try have hLt:=zM _ _ k3);(try simp only at hLt);(repeat first|rw[zO]|rw[zK _ _ _ _ (by first|(simp<;>omega)|omega)]|rw[zJ,if_neg (by first|(simp<;>omega)|omega)]);first|exact k3|(rw[zJ,if_pos (by first|(simp;done)|omega)];exact k3)),(by (try have hLt:=zM _ _ hch);(try simp only at hLt);(repeat first|rw[zO]|rw[zK _ _ _ _ (by first|(simp<;>omega)|omega)]|rw[zJ,if_neg (by first|(simp<;>omega)|omega)]);first|exact hch|(rw[zJ,if_pos (by first|(simp;done)|omega)];exact hch))⟩,hR _ _ ?_⟩;clear hR R
   repeat (refine zeX (fun R hR=>?_);(first|refine zaX (by first|rfl|(rw[HO.out];rfl)) (by simp only[zA,zB,zC,zD];rfl) ?_|refine zbX (by first|rfl|(rw[HO.out];rfl)) rfl (by first|exact .inl rfl|exact .inr rfl) (by simp only[zE,zF,zG,zH];rfl) (by simp only[zA,zB,zC,zD];rfl) ?_|refine zcX (by first|rfl|(rw[HO.out];rfl)) rfl rfl (by simp only[zE,zF,zG,zH];rfl) (by simp only[zA,zB,zC,zD];rfl) ?_|(refine zdX (by first|rfl|(rw[HO.out];rfl)) rfl rfl rfl ?_;apply zEx;apply zEx;refine⟨fun w' hS K hK=>?_,?_,?_⟩;(focus (obtain⟨hS1,hS2,hS3,hS4,hS5⟩:=hS;go_wp2;exact hK _ _ (by simp only[zl,zG,zH];first|exact zf (by omega)|exact zg (by omega)|exact zh (by omega)|exact zi (by omega)|exact zj (by omega)|exact zk (by omega)|exact RX.bneB _|rfl) rfl));(focus (simp only[zA,zB,zC,zD];rfl))));refine hR _ _ ?_;clear hR R)
   refine zeX (fun R hR=>?_)
   refine zgX (by first|rfl|(rw[HO.out];rfl)) rfl (fun K hK=>?_)
   go_wp2
   refine⟨⟨(by (try have hLt:=zM _ _ k0);(try simp only at hLt);(repeat first|rw[zO]|rw[zK _ _ _ _ (by first|(simp<;>omega)|omega)]|rw[zJ,if_neg (by first|(simp<;>omega)|omega)]);first|exact k0|(rw[zJ,if_pos (by first|(simp;done)|omega)];exact k0)),(by (try have hLt:=zM _ _ k1);(try simp only at hLt);(repeat first|rw[zO]|rw[zK _ _ _ _ (by first|(simp<;>omega)|omega)]|rw[zJ,if_neg (by first|(simp<;>omega)|omega)]);first|exact k1|(rw[zJ,if_pos (by first|(simp;done)|omega)];exact k1)),(by (try have hLt:=zM _ _ k2);(try simp only at hLt);(repeat first|rw[zO]|rw[zK _ _ _ _ (by first|(simp<;>omega)|omega)]|rw[zJ,if_neg (by first|(simp<;>omega)|omega)]);first|exact k2|(rw[zJ,if_pos (by first|(simp;done)|omega)];exact k2)),(by (try have hLt:=zM _ _ k3);(try simp only at hLt);(repeat first|rw[zO]|rw[zK _ _ _ _ (by first|(simp<;>omega)|omega)]|rw[zJ,if_neg (by first|(simp<;>omega)|omega)]);first|exact k3|(rw[zJ,if_pos (by first|(simp;done)|omega)];exact k3)),(by (try have hLt:=zM _ _ hch);(try simp only at hLt);(repeat first|rw[zO]|rw[zK _ _ _ _ (by first|(simp<;>omega)|omega)]|rw[zJ,if_neg (by first|(simp<;>omega)|omega)]);first|exact hch|(rw[zJ,if_pos (by first|(simp;done)|omega)];exact hch))⟩,hR _ _ ?_⟩;clear hR R
   repeat (refine zeX (fun R hR=>?_);(first|refine zaX (by first|rfl|(rw[HO.out];rfl)) (by simp only[zA,zB,zC,zD];rfl) ?_|refine zbX (by first|rfl|(rw[HO.out];rfl)) rfl (by first|exact .inl rfl|exact .inr rfl) (by simp only[zE,zF,zG,zH];rfl) (by simp only[zA,zB,zC,zD];rfl) ?_|refine zcX (by first|rfl|(rw[HO.out];rfl)) rfl rfl (by simp only[zE,zF,zG,zH];rfl) (by simp only[zA,zB,zC,zD];rfl) ?_|(refine zdX (by first|rfl|(rw[HO.out];rfl)) rfl rfl rfl ?_;apply zEx;apply zEx;refine⟨fun w' hS K hK=>?_,?_,?_⟩;(focus (obtain⟨hS1,hS2,hS3,hS4,hS5⟩:=hS;go_wp2;exact hK _ _ (by simp only[zl,zG,zH];first|exact zf (by omega)|exact zg (by omega)|exact zh (by omega)|exact zi (by omega)|exact zj (by omega)|exact zk (by omega)|exact RX.bneB _|rfl) rfl));(focus (simp only[zA,zB,zC,zD];rfl))));refine hR _ _ ?_;clear hR R)
   refine RX.wpL_nil (hQR _ _ ?_);clear hQR QR HO OPS
   have HPA:=zN (PlAt.new w1 pf ((pa-xa:Nat):Int) ((pb-xb:Nat):Int) ((pc-xc:Nat):Int))
   have HBB:Hid (Below W0.heap.size W0 (w1.alloc (.cells #[.int .i64 pf,.int .i64 ((pa-xa:Nat):Int),.int .i64 ((pb-xb:Nat):Int),.int .i64 ((pc-xc:Nat):Int)] 41))):=zN (hb1.alloc hs1 _)
   clear hb1
   go_wp2_with fail
   go_meet
   case rel=>exact⟨_,rfl,hs1,HPA.out,HBB.out⟩
  ·
   simp only[RX.pick,RX.nth,List.map_cons,List.map_nil,List.getD_cons_zero,List.getD_cons_succ]
   repeat (refine zeX (fun R hR=>?_);(first|refine zaX (by first|rfl|(rw[HO.out];rfl)) (by simp only[zA,zB,zC,zD];rfl) ?_|refine zbX (by first|rfl|(rw[HO.out];rfl)) rfl (by first|exact .inl rfl|exact .inr rfl) (by simp only[zE,zF,zG,zH];rfl) (by simp only[zA,zB,zC,zD];rfl) ?_|refine zcX (by first|rfl|(rw[HO.out];rfl)) rfl rfl (by simp only[zE,zF,zG,zH];rfl) (by simp only[zA,zB,zC,zD];rfl) ?_|(refine zdX (by first|rfl|(rw[HO.out];rfl)) rfl rfl rfl ?_;apply zEx;apply zEx;refine⟨fun w' hS K hK=>?_,?_,?_⟩;(focus (obtain⟨hS1,hS2,hS3,hS4,hS5⟩:=hS;go_wp2;exact hK _ _ (by simp only[zl,zG,zH];first|exact zf (by omega)|exact zg (by omega)|exact zh (by omega)|exact zi (by omega)|exact zj (by omega)|exact zk (by omega)|exact RX.bneB _|rfl) rfl));(focus (simp only[zA,zB,zC,zD];rfl))));refine hR _ _ ?_;clear hR R)
   refine zeX (fun R hR=>?_)
   refine zgX (by first|rfl|(rw[HO.out];rfl)) rfl (fun K hK=>?_)
   go_wp2
   refine⟨⟨(by (try have hLt:=zM _ _ k0);(try simp only at hLt);(repeat first|rw[zO]|rw[zK _ _ _ _ (by first|(simp<;>omega)|omega)]|rw[zJ,if_neg (by first|(simp<;>omega)|omega)]);first|exact k0|(rw[zJ,if_pos (by first|(simp;done)|omega)];exact k0)),(by (try have hLt:=zM _ _ k1);(try simp only at hLt);(repeat first|rw[zO]|rw[zK _ _ _ _ (by first|(simp<;>omega)|omega)]|rw[zJ,if_neg (by first|(simp<;>omega)|omega)]);first|exact k1|(rw[zJ,if_pos (by first|(simp;done)|omega)];exact k1)),(by (try have hLt:=zM _ _ k2);(try simp only at hLt);(repeat first|rw[zO]|rw[zK _ _ _ _ (by first|(simp<;>omega)|omega)]|rw[zJ,if_neg (by first|(simp<;>omega)|omega)]);first|exact k2|(rw[zJ,if_pos (by first|(simp;done)|omega)];exact k2)),(by (try have hLt:=zM _ _ k3);(try simp only at hLt);(repeat first|rw[zO]|rw[zK _ _ _ _ (by first|(simp<;>omega)|omega)]|rw[zJ,if_neg (by first|(simp<;>omega)|omega)]);first|exact k3|(rw[zJ,if_pos (by first|(simp;done)|omega)];exact k3)),(by (try have hLt:=zM _ _ hch);(try simp only at hLt);(repeat first|rw[zO]|rw[zK _ _ _ _ (by first|(simp<;>omega)|omega)]|rw[zJ,if_neg (by first|(simp<;>omega)|omega)]);first|exact hch|(rw[zJ,if_pos (by first|(simp;done)|omega)];exact hch))⟩,hR _ _ ?_⟩;clear hR R
   repeat (refine zeX (fun R hR=>?_);(first|refine zaX (by first|rfl|(rw[HO.out];rfl)) (by simp only[zA,zB,zC,zD];rfl) ?_|refine zbX (by first|rfl|(rw[HO.out];rfl)) rfl (by first|exact .inl rfl|exact .inr rfl) (by simp only[zE,zF,zG,zH];rfl) (by simp only[zA,zB,zC,zD];rfl) ?_|refine zcX (by first|rfl|(rw[HO.out];rfl)) rfl rfl (by simp only[zE,zF,zG,zH];rfl) (by simp only[zA,zB,zC,zD];rfl) ?_|(refine zdX (by first|rfl|(rw[HO.out];rfl)) rfl rfl rfl ?_;apply zEx;apply zEx;refine⟨fun w' hS K hK=>?_,?_,?_⟩;(focus (obtain⟨hS1,hS2,hS3,hS4,hS5⟩:=hS;go_wp2;exact hK _ _ (by simp only[zl,zG,zH];first|exact zf (by omega)|exact zg (by omega)|exact zh (by omega)|exact zi (by omega)|exact zj (by omega)|exact zk (by omega)|exact RX.bneB _|rfl) rfl));(focus (simp only[zA,zB,zC,zD];rfl))));refine hR _ _ ?_;clear hR R)
   refine zeX (fun R hR=>?_)
   refine zgX (by first|rfl|(rw[HO.out];rfl)) rfl (fun K hK=>?_)
   go_wp2_with fail
   refine (moved_any ⟨pf,pa,pb,pc⟩ (-(xa:Int)) (-(xb:Int)) (-(xc:Int)) (pa-xa) (pb-xb) (pc-xc) _ (by dsimp only;omega) (by dsimp only;omega) (by dsimp only;omega) (by dsimp only;omega) (by omega)).mono ?_
   rintro e w1 ⟨rfl,hb1⟩
   replace hb1:Below (W0.alloc (.cells #[.int .i64 0,.int .i64 0,.int .i64 0,.int .i64 0] 41)).heap.size (W0.alloc (.cells #[.int .i64 0,.int .i64 0,.int .i64 0,.int .i64 0] 41)) w1:=⟨hb1.os,hb1.tape,hb1.output,hb1.size,hb1.block⟩
   have hba:Below W0.heap.size W0 (W0.alloc (.cells #[.int .i64 0,.int .i64 0,.int .i64 0,.int .i64 0] 41)):=(zBr W0.heap.size W0).alloc (Nat.le_refl _) _
   have hPN:PlAt w1 W0.heap.size 0 0 0 0:=(PlAt.new W0 0 0 0 0).below hb1
   have hbb:Below W0.heap.size W0 w1:=hba.trans (hb1.mono hba.size)
   clear hba hb1
   replace k0:=zP hbb k0
   replace k1:=zP hbb k1
   replace k2:=zP hbb k2
   replace k3:=zP hbb k3
   replace hch:=zP hbb hch
   have HPN:=zN hPN
   obtain⟨r0,r1,r2,r3,s0,s1,s2,s3⟩:=hPN
   have HBB:=zN hbb
   clear hbb
   dsimp only[pv]
   refine hK _ _ ⟨⟨k0,k1,k2,k3,hch⟩,hR _ _ ?_⟩;clear hK K hR R
   repeat (refine zeX (fun R hR=>?_);(first|refine zaX (by first|rfl|(rw[HO.out];rfl)) (by simp only[zA,zB,zC,zD];rfl) ?_|refine zbX (by first|rfl|(rw[HO.out];rfl)) rfl (by first|exact .inl rfl|exact .inr rfl) (by simp only[zE,zF,zG,zH];rfl) (by simp only[zA,zB,zC,zD];rfl) ?_|refine zcX (by first|rfl|(rw[HO.out];rfl)) rfl rfl (by simp only[zE,zF,zG,zH];rfl) (by simp only[zA,zB,zC,zD];rfl) ?_|(refine zdX (by first|rfl|(rw[HO.out];rfl)) rfl rfl rfl ?_;apply zEx;apply zEx;refine⟨fun w' hS K hK=>?_,?_,?_⟩;(focus (obtain⟨hS1,hS2,hS3,hS4,hS5⟩:=hS;go_wp2;exact hK _ _ (by simp only[zl,zG,zH];first|exact zf (by omega)|exact zg (by omega)|exact zh (by omega)|exact zi (by omega)|exact zj (by omega)|exact zk (by omega)|exact RX.bneB _|rfl) rfl));(focus (simp only[zA,zB,zC,zD];rfl))));refine hR _ _ ?_;clear hR R)
   refine zeX (fun R hR=>?_)
   refine zgX (by first|rfl|(rw[HO.out];rfl)) rfl (fun K hK=>?_)
   go_wp2
   refine⟨⟨(by (try have hLt:=zM _ _ k0);(try simp only at hLt);(repeat first|rw[zO]|rw[zK _ _ _ _ (by first|(simp<;>omega)|omega)]|rw[zJ,if_neg (by first|(simp<;>omega)|omega)]);first|exact k0|(rw[zJ,if_pos (by first|(simp;done)|omega)];exact k0)),(by (try have hLt:=zM _ _ k1);(try simp only at hLt);(repeat first|rw[zO]|rw[zK _ _ _ _ (by first|(simp<;>omega)|omega)]|rw[zJ,if_neg (by first|(simp<;>omega)|omega)]);first|exact k1|(rw[zJ,if_pos (by first|(simp;done)|omega)];exact k1)),(by (try have hLt:=zM _ _ k2);(try simp only at hLt);(repeat first|rw[zO]|rw[zK _ _ _ _ (by first|(simp<;>omega)|omega)]|rw[zJ,if_neg (by first|(simp<;>omega)|omega)]);first|exact k2|(rw[zJ,if_pos (by first|(simp;done)|omega)];exact k2)),(by (try have hLt:=zM _ _ k3);(try simp only at hLt);(repeat first|rw[zO]|rw[zK _ _ _ _ (by first|(simp<;>omega)|omega)]|rw[zJ,if_neg (by first|(simp<;>omega)|omega)]);first|exact k3|(rw[zJ,if_pos (by first|(simp;done)|omega)];exact k3)),(by (try have hLt:=zM _ _ hch);(try simp only at hLt);(repeat first|rw[zO]|rw[zK _ _ _ _ (by first|(simp<;>omega)|omega)]|rw[zJ,if_neg (by first|(simp<;>omega)|omega)]);first|exact hch|(rw[zJ,if_pos (by first|(simp;done)|omega)];exact hch))⟩,hR _ _ ?_⟩;clear hR R
   repeat (refine zeX (fun R hR=>?_);(first|refine zaX (by first|rfl|(rw[HO.out];rfl)) (by simp only[zA,zB,zC,zD];rfl) ?_|refine zbX (by first|rfl|(rw[HO.out];rfl)) rfl (by first|exact .inl rfl|exact .inr rfl) (by simp only[zE,zF,zG,zH];rfl) (by simp only[zA,zB,zC,zD];rfl) ?_|refine zcX (by first|rfl|(rw[HO.out];rfl)) rfl rfl (by simp only[zE,zF,zG,zH];rfl) (by simp only[zA,zB,zC,zD];rfl) ?_|(refine zdX (by first|rfl|(rw[HO.out];rfl)) rfl rfl rfl ?_;apply zEx;apply zEx;refine⟨fun w' hS K hK=>?_,?_,?_⟩;(focus (obtain⟨hS1,hS2,hS3,hS4,hS5⟩:=hS;go_wp2;exact hK _ _ (by simp only[zl,zG,zH];first|exact zf (by omega)|exact zg (by omega)|exact zh (by omega)|exact zi (by omega)|exact zj (by omega)|exact zk (by omega)|exact RX.bneB _|rfl) rfl));(focus (simp only[zA,zB,zC,zD];rfl))));refine hR _ _ ?_;clear hR R)
   refine RX.wpL_nil (hQR _ _ ?_);clear hQR QR HO OPS
   have HPA:=zN ((((HPN.out.set0 (pf:Int)).set1 ((pa-xa:Nat):Int)).set2 ((pb-xb:Nat):Int)).set3 ((pc-xc:Nat):Int))
   have HBF:Hid (Below W0.heap.size W0 ((((w1.setCell ⟨W0.heap.size,0,none⟩ (.int .i64 pf)).setCell ⟨W0.heap.size,1,none⟩ (.int .i64 ((pa-xa:Nat):Int))).setCell ⟨W0.heap.size,2,none⟩ (.int .i64 ((pb-xb:Nat):Int))).setCell ⟨W0.heap.size,3,none⟩ (.int .i64 ((pc-xc:Nat):Int)))):=
    zN ((((HBB.out.setCell (Nat.le_refl _) _).setCell (Nat.le_refl _) _).setCell (Nat.le_refl _) _).setCell (Nat.le_refl _) _)
   go_wp2_with fail
   go_meet
   case rel=>exact⟨_,rfl,Nat.le_refl _,HPA.out,HBF.out⟩
 case rest=>
  obtain⟨o,rfl,ho,hPA,hbc⟩:=hcut
  have hb1:=HB0.out.1.trans (hbc.mono HB0.out.1.size)
  have hN1:NetAt wc g n base (nodesL n):=HB0.out.2.below hbc
  replace k0:=zP hbc k0
  replace k1:=zP hbc k1
  replace k2:=zP hbc k2
  replace k3:=zP hbc k3
  replace hch:=zP hbc hch
  clear hbc HB0
  have hoP:w.heap.size≠o:=by omega
  have hog:g < o:=by omega
  have how:w.heap.size < o:=by omega
  clear ho hgl0 hPl
  clear W0
  have hPl:w.heap.size < wc.heap.size:=zM _ _ k0
  have hol:=hPA.lt
  have hgl1:g < wc.heap.size:=zM _ _ hch
  have n1:¬ (w.heap.size=wc.heap.size):=by omega
  have n2:¬ (w.heap.size=wc.heap.size+1):=by omega
  have n3:¬ (o=wc.heap.size):=by omega
  have n4:¬ (o=wc.heap.size+1):=by omega
  obtain⟨b0,b1,b2,b3,_,_,_,_⟩:=hPA
  have hbw:Below wc.heap.size wc ((wc.alloc (.cells #[.int .i64 0,.int .i64 0,.int .i64 0,.int .i64 0,.int .i64 0,.int .i64 0,.int .i64 0,.int .i64 0,.int .i64 0,.int .i64 0,.int .i64 0,.int .i64 0] 167)).alloc (.cells #[.int .i64 0,.int .i64 0,.int .i64 0] 132)):=(by repeat (first|(with_reducible first|assumption|exact zBr _ _|refine zBs ?_ (by first|omega|(simp<;>omega)) _|refine zBa ?_ (by first|omega|(simp<;>omega)) _|apply zBd)|assumption))
  rcases hrs with h0|h0|h0
  ·have hsum:(x:Int)+(y:Int)+(z:Int)=0:=by omega
   have HL:Hid (locRaw n ⟨pf,pa,pb,pc⟩=[(atL n ⟨pf,pa,pb,pc⟩,840)]):=zN (by rw[HRAW.out,HALL.out,if_pos h0];rfl)
   go_wp2_with fail
   refine (at_any g n base (nodesL n) ⟨pf,pa,pb,pc⟩ _ ((hT.below hb1).below hbw) (hN1.below hbw) HP.out).mono ?_
   rintro e w3 ⟨rfl,hb3⟩
   have hb4:=(hb1.trans (hbw.mono hb1.size)).trans (hb3.mono (hb1.trans (hbw.mono hb1.size)).size)
   go_wp2
   go_ret
   rw[HL.out]
   refine⟨_,1,[(atL n ⟨pf,pa,pb,pc⟩,840)],rfl,Nat.le_refl _,List.Perm.refl _,List.pairwise_singleton _ _,fun k hk=>?_,hb4.alloc hb4.size _⟩
   obtain rfl:k=0:=by simp at hk;exact hk
   exact⟨by simp[zJ,atL],by simp[zJ]⟩
  ·have hsum:(x:Int)+(y:Int)+(z:Int)=840:=by omega
   go_wp2_with fail
   refine (upward_any g h ⟨pf,pa-xa,pb-xb,pc-xc⟩ _ (zP hbw hch) hh8 (by dsimp only;omega)).mono ?_
   rintro e w3 ⟨rfl,hb3⟩
   have hb2:=hbw.trans (hb3.mono hbw.size)
   dsimp only
   have HC:Hid (∀ j,j < 12→w3.cell? ⟨wc.heap.size,j,none⟩=some (.int .i64 0)∧w3.frozen? ⟨wc.heap.size,j,none⟩=false):=zN (fun j hj=>by
    refine⟨zP hb3 ?_,(hb3.frozen (by simp;omega)).trans ?_⟩
    ·match j,hj with
     |0,_|1,_|2,_|3,_|4,_|5,_|6,_|7,_|8,_|9,_|10,_|11,_=>simp[zJ]
     |j+12,hj=>omega
    ·simp[RX.frozen_alloc])
   obtain⟨q0,f0⟩:=HC.out 0 (by omega)
   obtain⟨q1,f1⟩:=HC.out 1 (by omega)
   obtain⟨q2,f2⟩:=HC.out 2 (by omega)
   obtain⟨q3,f3⟩:=HC.out 3 (by omega)
   obtain⟨q4,f4⟩:=HC.out 4 (by omega)
   obtain⟨q5,f5⟩:=HC.out 5 (by omega)
   obtain⟨q6,f6⟩:=HC.out 6 (by omega)
   obtain⟨q7,f7⟩:=HC.out 7 (by omega)
   obtain⟨q8,f8⟩:=HC.out 8 (by omega)
   obtain⟨q9,f9⟩:=HC.out 9 (by omega)
   obtain⟨q10,f10⟩:=HC.out 10 (by omega)
   obtain⟨q11,f11⟩:=HC.out 11 (by omega)
   have r0:w3.cell? ⟨wc.heap.size+1,0,none⟩=some (.int .i64 0):=zP hb3 (by simp[zJ])
   have s0:w3.frozen? ⟨wc.heap.size+1,0,none⟩=false:=(hb3.frozen (by first|(simp;done)|(simp;omega))).trans (by simp[RX.frozen_alloc])
   have r1:w3.cell? ⟨wc.heap.size+1,1,none⟩=some (.int .i64 0):=zP hb3 (by simp[zJ])
   have s1:w3.frozen? ⟨wc.heap.size+1,1,none⟩=false:=(hb3.frozen (by first|(simp;done)|(simp;omega))).trans (by simp[RX.frozen_alloc])
   have r2:w3.cell? ⟨wc.heap.size+1,2,none⟩=some (.int .i64 0):=zP hb3 (by simp[zJ])
   have s2:w3.frozen? ⟨wc.heap.size+1,2,none⟩=false:=(hb3.frozen (by first|(simp;done)|(simp;omega))).trans (by simp[RX.frozen_alloc])
   have HB2:=zN hb2
   clear hb2 hb3 hbw
   dsimp only[pv3]
   go_wp2
   rw[show ((pa-xa:Nat):Int)+(h:Int)=((pa-xa+h:Nat):Int) by omega]
   rw[show ((pb-xb:Nat):Int)+(h:Int)=((pb-xb+h:Nat):Int) by omega]
   rw[show ((pc-xc:Nat):Int)+(h:Int)=((pc-xc+h:Nat):Int) by omega]
   refine absW (F:=fun w'=>w'.cell? ⟨wc.heap.size+1,0,none⟩=some (.int .i64 ((x:Nat):Int))∧w'.cell? ⟨wc.heap.size+1,1,none⟩=some (.int .i64 ((y:Nat):Int))∧w'.cell? ⟨wc.heap.size+1,2,none⟩=some (.int .i64 ((z:Nat):Int))∧Below wc.heap.size wc w') ⟨?_,?_,?_,?_⟩ ?_
   ·simp[go_sem,r0]
   ·simp[go_sem,r1]
   ·simp[go_sem,r2]
   ·iterate 3 refine zBs ?_ (by simp) _
    iterate 12 refine zBs ?_ (by simp) _
    exact HB2.out
   rintro W4 ⟨g0,g1,g2,hbW⟩
   obtain⟨AR,hAR⟩:∃ v:Value,v=.agg #[.int .i64 pf,.int .i64 ((pa-xa+h:Nat):Int),.int .i64 ((pb-xb:Nat):Int),.int .i64 ((pc-xc:Nat):Int),.int .i64 pf,.int .i64 ((pa-xa:Nat):Int),.int .i64 ((pb-xb+h:Nat):Int),.int .i64 ((pc-xc:Nat):Int),.int .i64 pf,.int .i64 ((pa-xa:Nat):Int),.int .i64 ((pb-xb:Nat):Int),.int .i64 ((pc-xc+h:Nat):Int)]:=⟨_,rfl⟩
   rw[←hAR]
   obtain⟨Cs,hCs⟩:∃ l:List (Pl × Nat),l=[(⟨pf,pa-xa+h,pb-xb,pc-xc⟩,x),(⟨pf,pa-xa,pb-xb+h,pc-xc⟩,y),(⟨pf,pa-xa,pb-xb,pc-xc+h⟩,z)]:=⟨_,rfl⟩
   have hlen:Cs.length=3:=by rw[hCs];rfl
   have HIX:Hid (∀ k (hk:k < Cs.length) (w:World),(Instr.index 167 AR (.int .i64 (k:Int))).run Tryz.prog w=.ok (pv Cs[k].1) w):=zN (fun k hk w=>by
    subst hCs hAR
    match k,hk with
    |0,_=>show _=_;kernel_rfl
    |1,_=>show _=_;kernel_rfl
    |2,_=>show _=_;kernel_rfl
    |k+3,hk=>simp at hk;omega)
   have HWT:Hid (∀ k (hk:k < Cs.length),W4.cell? ⟨wc.heap.size+1,k,none⟩=some (.int .i64 ((Cs[k].2:Nat):Int))):=zN (fun k hk=>by
    subst hCs
    match k,hk with
    |0,_=>exact g0
    |1,_=>exact g1
    |2,_=>exact g2
    |k+3,hk=>simp at hk;omega)
   have HCs:Hid (locAll n ⟨pf,pa,pb,pc⟩=Cs):=zN (by rw[HALL.out,if_neg (by omega),if_pos h0,hCs])
   have hb4:Below w.heap.size w W4:=hb1.trans (hbW.mono hb1.size)
   have hN4:NetAt W4 g n base (nodesL n):=hN1.below hbW
   have hT4:=hT.below hb4
   have HO:Hid (∀ k (hk:k < Cs.length),Cs[k].1.Ok):=zN (fun k hk=>(HOK.out Cs[k] (by rw[HCs.out];exact List.getElem_mem _)).1)
   have HRW:Hid (locRaw n ⟨pf,pa,pb,pc⟩=(Cs.filter (fun c=>decide (0 < c.2))).map (fun c=>(atL n c.1,c.2))):=zN (by rw[HRAW.out,HCs.out])
   clear hbW hb1 hN1 hAR hCs g0 g1 g2 k0 k1 k2 k3 hch b0 b1 b2 b3 HCs HALL HRAW HB2 HC
   clear n1 n2 n3 n4
   go_loopw [11,108] (fun v i wr=>∃ (k:Nat) (S:List (Nat × Nat)),k≤3∧i=.int .i64 k∧Hid (S=((Cs.take k).filter (fun c=>decide (0 < c.2))).map (fun c=>(atL n c.1,c.2)))∧wr.ownsRow W4.heap.size 123 2 v S.length (S.flatMap encN)∧S.length≤k∧Below W4.heap.size W4 wr) (fun v i _=>3-(intOf i).toNat)
   case atStart=>exact⟨0,[],by omega,rfl,zN rfl,World.ownsRow_nil _ _ _ _,Nat.le_refl _,zBr _ _⟩
   case round=>
    obtain⟨k,S,hk,rfl,HS,hown,hSl,hB⟩:=hrel
    by_cases hlt:k < 3
    ·have hdk:decide ((k:Int) < 3)=true:=zDt (by omega)
     have hkc:k < Cs.length:=by omega
     have ik:=HIX.out k hkc
     have wk:=zP hB (HWT.out k hkc)
     have HQ:=HO.out k hkc
     have hstep:((Cs.take (k+1)).filter (fun c=>decide (0 < c.2))).map (fun c=>(atL n c.1,c.2))=S ++ (if 0 < Cs[k].2 then [(atL n Cs[k].1,Cs[k].2)] else []):=by
      rw[List.take_succ_eq_append_getElem hkc,List.filter_append,List.map_append,←HS.out]
      by_cases h:0 < Cs[k].2<;>simp[List.filter_cons,h]
     obtain⟨cc,hcc⟩:∃ c,c=Cs[k]:=⟨_,rfl⟩
     rw[←hcc] at ik wk HQ hstep
     have HST:=zN hstep
     clear hcc hstep
     obtain⟨⟨qf,qa,qb,qc⟩,vk⟩:=cc
     have HQ:=zN HQ
     simp only[pv] at ik
     dsimp only at wk HST
     obtain⟨p8,c8,rfl,hc8⟩:=own_slice hown
     have hk0:(0:Int)≤(k:Int):=by omega
     have hk3:(k:Int) < 3:=by omega
     have hwr:=zM _ _ wk
     have hwr:wc.heap.size+1 < wr.heap.size:=hwr
     have hne:¬ (wc.heap.size+1=wr.heap.size):=by omega
     have hwW:wc.heap.size+1 < W4.heap.size:=zM _ _ (HWT.out k hkc)
     have hBs:=hB.size
     by_cases hv:0 < vk
     ·have hvb:decide ((0:Int) < (vk:Int))=true:=zDt (by omega)
      rw[if_pos hv] at HST
      go_wp2
      have c0:(wr.alloc (.cells #[.int .i64 qf,.int .i64 qa,.int .i64 qb,.int .i64 qc] 41)).cell? ⟨wr.heap.size,0,none⟩=some (.int .i64 qf):=(by simp[zO,zJ,zQ])
      have c1:(wr.alloc (.cells #[.int .i64 qf,.int .i64 qa,.int .i64 qb,.int .i64 qc] 41)).cell? ⟨wr.heap.size,1,none⟩=some (.int .i64 qa):=(by simp[zO,zJ,zQ])
      have c2:(wr.alloc (.cells #[.int .i64 qf,.int .i64 qa,.int .i64 qb,.int .i64 qc] 41)).cell? ⟨wr.heap.size,2,none⟩=some (.int .i64 qb):=(by simp[zO,zJ,zQ])
      have c3:(wr.alloc (.cells #[.int .i64 qf,.int .i64 qa,.int .i64 qb,.int .i64 qc] 41)).cell? ⟨wr.heap.size,3,none⟩=some (.int .i64 qc):=(by simp[zO,zJ,zQ])
      have cw:(wr.alloc (.cells #[.int .i64 qf,.int .i64 qa,.int .i64 qb,.int .i64 qc] 41)).cell? ⟨wc.heap.size+1,k,none⟩=some (.int .i64 (vk:Int)):=(by (try have hLt:=zM _ _ wk);(try simp only at hLt);(repeat first|rw[zO]|rw[zK _ _ _ _ (by first|(simp<;>omega)|omega)]|rw[zJ,if_neg (by first|(simp<;>omega)|omega)]);first|exact wk|(rw[zJ,if_pos (by first|(simp;done)|omega)];exact wk))
      have hbx:Below wr.heap.size wr (wr.alloc (.cells #[.int .i64 qf,.int .i64 qa,.int .i64 qb,.int .i64 qc] 41)):=(zBr wr.heap.size wr).alloc (Nat.le_refl _) _
      have hsx:wr.heap.size+1≤(wr.alloc (.cells #[.int .i64 qf,.int .i64 qa,.int .i64 qb,.int .i64 qc] 41)).heap.size:=by simp
      have hownx:(wr.alloc (.cells #[.int .i64 qf,.int .i64 qa,.int .i64 qb,.int .i64 qc] 41)).ownsRow W4.heap.size 123 2 (.slice p8 S.length c8) S.length (S.flatMap encN):=hown.alloc _
      generalize (wr.alloc (.cells #[.int .i64 qf,.int .i64 qa,.int .i64 qb,.int .i64 qc] 41))=wx at *
      refine RY.region RX.fN (fun w'=>w'.cell? ⟨wr.heap.size,0,none⟩=some (.int .i64 qf)∧w'.cell? ⟨wr.heap.size,1,none⟩=some (.int .i64 qa)∧w'.cell? ⟨wr.heap.size,2,none⟩=some (.int .i64 qb)∧w'.cell? ⟨wr.heap.size,3,none⟩=some (.int .i64 qc)∧w'.cell? ⟨wc.heap.size+1,k,none⟩=some (.int .i64 (vk:Int))) (by kernel_rfl) (by kernel_rfl) (⟨c0,c1,c2,c3,cw⟩) (fun OPS HO QR hQR=>?_)
      repeat (refine zeY (fun R hR=>?_);(first|refine zaY (by first|rfl|(rw[HO.out];rfl)) (by simp only[zA,zB,zC,zD];rfl) ?_|refine zbY (by first|rfl|(rw[HO.out];rfl)) rfl (by first|exact .inl rfl|exact .inr rfl) (by simp only[zE,zF,zG,zH];rfl) (by simp only[zA,zB,zC,zD];rfl) ?_|refine zcY (by first|rfl|(rw[HO.out];rfl)) rfl rfl (by simp only[zE,zF,zG,zH];rfl) (by simp only[zA,zB,zC,zD];rfl) ?_|(refine zdY (by first|rfl|(rw[HO.out];rfl)) rfl rfl rfl ?_;apply zEx;apply zEx;refine⟨fun w' hS K hK=>?_,?_,?_⟩;(focus (obtain⟨hS1,hS2,hS3,hS4,hS5⟩:=hS;go_wp2;exact hK _ _ (by simp only[zl,zG,zH];first|exact zf (by omega)|exact zg (by omega)|exact zh (by omega)|exact zi (by omega)|exact zj (by omega)|exact zk (by omega)|exact RX.bneB _|rfl) rfl));(focus (simp only[zA,zB,zC,zD];rfl))));refine hR _ _ ?_;clear hR R)
      refine zeY (fun R hR=>?_)
      refine zgY (by first|rfl|(rw[HO.out];rfl)) rfl (fun K hK=>?_)
      go_wp2_with fail
      have hwd:Below W4.heap.size W4 wx.drew:=(hB.trans (hbx.mono hBs)).trans ⟨rfl,rfl,rfl,Nat.le_refl _,fun _ _=>rfl⟩
      refine (at_any g n base (nodesL n) ⟨qf,qa,qb,qc⟩ wx.drew (hT4.below hwd) (hN4.below hwd) HQ.out).mono ?_
      rintro e w1 ⟨rfl,hb1⟩
      replace hb1:Below wx.heap.size wx w1:=⟨hb1.os,hb1.tape,hb1.output,hb1.size,hb1.block⟩
      rw[show (ix (nodesL n) (normal ⟨qf,qa,qb,qc⟩)).getD 0=atL n ⟨qf,qa,qb,qc⟩ from rfl]
      replace c0:=zP hb1 c0
      replace c1:=zP hb1 c1
      replace c2:=zP hb1 c2
      replace c3:=zP hb1 c3
      replace cw:=zP hb1 cw
      have hs1:=hb1.size
      have hown1:=hownx.kept (row:=none) ⟨hb1.os,hb1.tape,hb1.output,hb1.size,fun k hk _=>hb1.block k hk⟩ (by cases ho:(Value.slice p8 S.length c8).ownBlock with
       |none=>exact .inl rfl
       |some q=>exact .inr (by simp))
      have hb01:Below wr.heap.size wr w1:=hbx.trans (hb1.mono (by omega))
      clear hb1 hownx
      refine hK _ _ ⟨.inr (⟨c0,c1,c2,c3,cw⟩),hR _ _ ?_⟩;clear hK K hR R
      repeat (refine zeY (fun R hR=>?_);(first|refine zaY (by first|rfl|(rw[HO.out];rfl)) (by simp only[zA,zB,zC,zD];rfl) ?_|refine zbY (by first|rfl|(rw[HO.out];rfl)) rfl (by first|exact .inl rfl|exact .inr rfl) (by simp only[zE,zF,zG,zH];rfl) (by simp only[zA,zB,zC,zD];rfl) ?_|refine zcY (by first|rfl|(rw[HO.out];rfl)) rfl rfl (by simp only[zE,zF,zG,zH];rfl) (by simp only[zA,zB,zC,zD];rfl) ?_|(refine zdY (by first|rfl|(rw[HO.out];rfl)) rfl rfl rfl ?_;apply zEx;apply zEx;refine⟨fun w' hS K hK=>?_,?_,?_⟩;(focus (obtain⟨hS1,hS2,hS3,hS4,hS5⟩:=hS;go_wp2;exact hK _ _ (by simp only[zl,zG,zH];first|exact zf (by omega)|exact zg (by omega)|exact zh (by omega)|exact zi (by omega)|exact zj (by omega)|exact zk (by omega)|exact RX.bneB _|rfl) rfl));(focus (simp only[zA,zB,zC,zD];rfl))));refine hR _ _ ?_;clear hR R)
      refine zeY (fun R hR=>?_)
      refine zgY (by first|rfl|(rw[HO.out];rfl)) rfl (fun K hK=>?_)
      go_wp2
      refine⟨.inr (⟨(by (try have hLt:=zM _ _ c0);(try simp only at hLt);(repeat first|rw[zO]|rw[zK _ _ _ _ (by first|(simp<;>omega)|omega)]|rw[zJ,if_neg (by first|(simp<;>omega)|omega)]);first|exact c0|(rw[zJ,if_pos (by first|(simp;done)|omega)];exact c0)),(by (try have hLt:=zM _ _ c1);(try simp only at hLt);(repeat first|rw[zO]|rw[zK _ _ _ _ (by first|(simp<;>omega)|omega)]|rw[zJ,if_neg (by first|(simp<;>omega)|omega)]);first|exact c1|(rw[zJ,if_pos (by first|(simp;done)|omega)];exact c1)),(by (try have hLt:=zM _ _ c2);(try simp only at hLt);(repeat first|rw[zO]|rw[zK _ _ _ _ (by first|(simp<;>omega)|omega)]|rw[zJ,if_neg (by first|(simp<;>omega)|omega)]);first|exact c2|(rw[zJ,if_pos (by first|(simp;done)|omega)];exact c2)),(by (try have hLt:=zM _ _ c3);(try simp only at hLt);(repeat first|rw[zO]|rw[zK _ _ _ _ (by first|(simp<;>omega)|omega)]|rw[zJ,if_neg (by first|(simp<;>omega)|omega)]);first|exact c3|(rw[zJ,if_pos (by first|(simp;done)|omega)];exact c3)),(by (try have hLt:=zM _ _ cw);(try simp only at hLt);(repeat first|rw[zO]|rw[zK _ _ _ _ (by first|(simp<;>omega)|omega)]|rw[zJ,if_neg (by first|(simp<;>omega)|omega)]);first|exact cw|(rw[zJ,if_pos (by first|(simp;done)|omega)];exact cw))⟩),hR _ _ ?_⟩;clear hR R
      repeat (refine zeY (fun R hR=>?_);(first|refine zaY (by first|rfl|(rw[HO.out];rfl)) (by simp only[zA,zB,zC,zD];rfl) ?_|refine zbY (by first|rfl|(rw[HO.out];rfl)) rfl (by first|exact .inl rfl|exact .inr rfl) (by simp only[zE,zF,zG,zH];rfl) (by simp only[zA,zB,zC,zD];rfl) ?_|refine zcY (by first|rfl|(rw[HO.out];rfl)) rfl rfl (by simp only[zE,zF,zG,zH];rfl) (by simp only[zA,zB,zC,zD];rfl) ?_|(refine zdY (by first|rfl|(rw[HO.out];rfl)) rfl rfl rfl ?_;apply zEx;apply zEx;refine⟨fun w' hS K hK=>?_,?_,?_⟩;(focus (obtain⟨hS1,hS2,hS3,hS4,hS5⟩:=hS;go_wp2;exact hK _ _ (by simp only[zl,zG,zH];first|exact zf (by omega)|exact zg (by omega)|exact zh (by omega)|exact zi (by omega)|exact zj (by omega)|exact zk (by omega)|exact RX.bneB _|rfl) rfl));(focus (simp only[zA,zB,zC,zD];rfl))));refine hR _ _ ?_;clear hR R)
      refine zeY (fun R hR=>?_)
      refine zgY (by first|rfl|(rw[HO.out];rfl)) rfl (fun K hK=>?_)
      refine RX.wp_app elSh _ _ rfl W4.heap.size _ _ _ (hown1.alloc _) (by simp only[zE,zF,zG,zH]) w1.heap.size _ 1 (by simp only[zE,zF,zG,zH]) (heap_alloc_new _ _) rfl (by simp[Value.oneCell']) (by omega) (by omega) (by simp;omega) (fun v5 w5 hown5 hb5 hg5 hat5=>?_)
      have hg15:w1.grownBy w5 (Value.slice p8 S.length c8).ownBlock:=by
       have h0:w1.grownBy (w1.alloc (.cells #[.int .i64 (atL n ⟨qf,qa,qb,qc⟩:Int),.int .i64 (vk:Int)] 123)) (Value.slice p8 S.length c8).ownBlock:=by
        have:=World.grownBy_alloc w1 (.cells #[.int .i64 (atL n ⟨qf,qa,qb,qc⟩:Int),.int .i64 (vk:Int)] 123) (Value.slice p8 S.length c8).ownBlock
        exact⟨this.os,this.tape,this.output,this.size,this.block⟩
       exact h0.trans hg5
      have hnb:∀ b,wr.heap.size≤b→some b≠(Value.slice p8 S.length c8).ownBlock:=fun b hb e=>by
       have:=(hown.lt b e.symm).2;omega
      have hnw:some (wc.heap.size+1)≠(Value.slice p8 S.length c8).ownBlock:=fun e=>by
       have:=(hown.lt _ e.symm).1;omega
      have hlow:∀ q,(Value.slice p8 S.length c8).ownBlock=some q→W4.heap.size≤q:=fun q hq=>(hown.lt q hq).1
      have hB5:Below W4.heap.size W4 w5:=(hB.trans (hb01.mono hBs)).grown hg15 (by omega) hlow
      obtain⟨p5,c5,rfl,_⟩:=own_slice hown5
      have HOB:=zN (And.intro hown5 hB5)
      refine hK _ _ ⟨.inr (⟨hg15.cell c0 (hnb _ (Nat.le_refl _)),hg15.cell c1 (hnb _ (Nat.le_refl _)),hg15.cell c2 (hnb _ (Nat.le_refl _)),hg15.cell c3 (hnb _ (Nat.le_refl _)),hg15.cell cw hnw⟩),?_⟩;clear hK K;refine RY.at_ (by simp only[RX.put_some,RX.put_none,List.set_cons_zero,List.set_cons_succ];rfl) (hR _ _ ?_);clear hR R
      clear hown5 hB5
      repeat (refine zeY (fun R hR=>?_);(first|refine zaY (by first|rfl|(rw[HO.out];rfl)) (by simp only[zA,zB,zC,zD];rfl) ?_|refine zbY (by first|rfl|(rw[HO.out];rfl)) rfl (by first|exact .inl rfl|exact .inr rfl) (by simp only[zE,zF,zG,zH];rfl) (by simp only[zA,zB,zC,zD];rfl) ?_|refine zcY (by first|rfl|(rw[HO.out];rfl)) rfl rfl (by simp only[zE,zF,zG,zH];rfl) (by simp only[zA,zB,zC,zD];rfl) ?_|(refine zdY (by first|rfl|(rw[HO.out];rfl)) rfl rfl rfl ?_;apply zEx;apply zEx;refine⟨fun w' hS K hK=>?_,?_,?_⟩;(focus (obtain⟨hS1,hS2,hS3,hS4,hS5⟩:=hS;go_wp2;exact hK _ _ (by simp only[zl,zG,zH];first|exact zf (by omega)|exact zg (by omega)|exact zh (by omega)|exact zi (by omega)|exact zj (by omega)|exact zk (by omega)|exact RX.bneB _|rfl) rfl));(focus (simp only[zA,zB,zC,zD];rfl))));refine hR _ _ ?_;clear hR R)
      refine RY.wpL_nil (hQR _ _ ?_);clear hQR QR HO OPS
      go_wp2
      go_roundw
      case rel=>exact⟨k+1,S ++ [(atL n ⟨qf,qa,qb,qc⟩,vk)],by omega,by go_num,zN HST.out.symm,by rw[List.length_append,List.flatMap_append];exact HOB.out.1,by rw[List.length_append,List.length_singleton];omega,HOB.out.2⟩
      case measure=>simp[intOf];omega
     ·obtain rfl:vk=0:=by omega
      rw[if_neg hv,List.append_nil] at HST
      go_wp2
      go_roundw
      case rel=>exact⟨k+1,S,by omega,by go_num,zN HST.out.symm,hown.alloc _,by omega,hB.alloc hBs _⟩
      case measure=>simp[intOf];omega
    ·obtain rfl:k=3:=by omega
     have hSR:S=locRaw n ⟨pf,pa,pb,pc⟩:=by rw[HS.out,HRW.out,List.take_of_length_le (by omega)]
     have h0:0 < S.length:=by
      rw[hSR];exact List.length_pos_iff.2 (loc_ne h1 hn840 HP.out)
     obtain⟨g8,c8,cur8,rfl,hc8,hb8,_⟩:=own_some hown h0
     have hSd:S.Pairwise (fun c d=>c.1≠d.1):=by rw[hSR];exact loc_keys h1 (by omega) hn840 HP.out
     have hSn:∀ x∈S,x.1 < 100000:=by
      intro x hx
      rw[hSR] at hx
      have hx1:=(loc_nodes h1 hn840 HP.out x hx).1
      have hl:=nodes_len h1 h8
      have h64:=Nat.mul_le_mul h8 h8
      have h640:10*n*n≤640:=by rw[Nat.mul_assoc];omega
      omega
     have HSR:=zN hSR
     clear hSR
     go_wp2_with fail
     refine (sortShares_any wr W4.heap.size g8 S c8 h0 hSn hSd hown hc8 (by omega)).mono ?_
     rintro e w6 ⟨rfl,hg6,T,hperm,hasc,hsh⟩
     have hB6:=hB.grown hg6 hB.size (fun k hk=>by injection hk with hk;omega)
     have HF:=zN (And.intro hperm (And.intro hasc (And.intro hsh (hb4.trans (hB6.mono hb4.size)))))
     have hTl:T.length=S.length:=hperm.length_eq
     have HTL:=zN hTl
     clear hperm hasc hsh hB6 hg6 hown hTl
     go_wp2
     go_ret
     exact⟨g8,c8,T,by rw[HTL.out];rfl,by rw[HTL.out];exact hc8,by rw[←HSR.out];exact HF.out.1,HF.out.2.1,HF.out.2.2.1,HF.out.2.2.2⟩
  ·have hsum:(x:Int)+(y:Int)+(z:Int)=1680:=by omega
   go_wp2_with fail
   refine (downward_any g h ⟨pf,pa-xa,pb-xb,pc-xc⟩ _ (zP hbw hch) hh8 (by dsimp only;omega)).mono ?_
   rintro e w3 ⟨rfl,hb3⟩
   have hb2:=hbw.trans (hb3.mono hbw.size)
   dsimp only
   have HC:Hid (∀ j,j < 12→w3.cell? ⟨wc.heap.size,j,none⟩=some (.int .i64 0)∧w3.frozen? ⟨wc.heap.size,j,none⟩=false):=zN (fun j hj=>by
    refine⟨zP hb3 ?_,(hb3.frozen (by simp;omega)).trans ?_⟩
    ·match j,hj with
     |0,_|1,_|2,_|3,_|4,_|5,_|6,_|7,_|8,_|9,_|10,_|11,_=>simp[zJ]
     |j+12,hj=>omega
    ·simp[RX.frozen_alloc])
   obtain⟨q0,f0⟩:=HC.out 0 (by omega)
   obtain⟨q1,f1⟩:=HC.out 1 (by omega)
   obtain⟨q2,f2⟩:=HC.out 2 (by omega)
   obtain⟨q3,f3⟩:=HC.out 3 (by omega)
   obtain⟨q4,f4⟩:=HC.out 4 (by omega)
   obtain⟨q5,f5⟩:=HC.out 5 (by omega)
   obtain⟨q6,f6⟩:=HC.out 6 (by omega)
   obtain⟨q7,f7⟩:=HC.out 7 (by omega)
   obtain⟨q8,f8⟩:=HC.out 8 (by omega)
   obtain⟨q9,f9⟩:=HC.out 9 (by omega)
   obtain⟨q10,f10⟩:=HC.out 10 (by omega)
   obtain⟨q11,f11⟩:=HC.out 11 (by omega)
   have r0:w3.cell? ⟨wc.heap.size+1,0,none⟩=some (.int .i64 0):=zP hb3 (by simp[zJ])
   have s0:w3.frozen? ⟨wc.heap.size+1,0,none⟩=false:=(hb3.frozen (by first|(simp;done)|(simp;omega))).trans (by simp[RX.frozen_alloc])
   have r1:w3.cell? ⟨wc.heap.size+1,1,none⟩=some (.int .i64 0):=zP hb3 (by simp[zJ])
   have s1:w3.frozen? ⟨wc.heap.size+1,1,none⟩=false:=(hb3.frozen (by first|(simp;done)|(simp;omega))).trans (by simp[RX.frozen_alloc])
   have r2:w3.cell? ⟨wc.heap.size+1,2,none⟩=some (.int .i64 0):=zP hb3 (by simp[zJ])
   have s2:w3.frozen? ⟨wc.heap.size+1,2,none⟩=false:=(hb3.frozen (by first|(simp;done)|(simp;omega))).trans (by simp[RX.frozen_alloc])
   have HB2:=zN hb2
   clear hb2 hb3 hbw
   dsimp only[pv3]
   go_wp2
   rw[show ((pa-xa:Nat):Int)+(h:Int)=((pa-xa+h:Nat):Int) by omega]
   rw[show ((pb-xb:Nat):Int)+(h:Int)=((pb-xb+h:Nat):Int) by omega]
   rw[show ((pc-xc:Nat):Int)+(h:Int)=((pc-xc+h:Nat):Int) by omega]
   rw[show (840:Int)-(x:Int)=((840-x:Nat):Int) by omega]
   rw[show (840:Int)-(y:Int)=((840-y:Nat):Int) by omega]
   rw[show (840:Int)-(z:Int)=((840-z:Nat):Int) by omega]
   refine absW (F:=fun w'=>w'.cell? ⟨wc.heap.size+1,0,none⟩=some (.int .i64 ((840-x:Nat):Int))∧w'.cell? ⟨wc.heap.size+1,1,none⟩=some (.int .i64 ((840-y:Nat):Int))∧w'.cell? ⟨wc.heap.size+1,2,none⟩=some (.int .i64 ((840-z:Nat):Int))∧Below wc.heap.size wc w') ⟨?_,?_,?_,?_⟩ ?_
   ·simp[go_sem,r0]
   ·simp[go_sem,r1]
   ·simp[go_sem,r2]
   ·iterate 3 refine zBs ?_ (by simp) _
    iterate 12 refine zBs ?_ (by simp) _
    exact HB2.out
   rintro W4 ⟨g0,g1,g2,hbW⟩
   obtain⟨AR,hAR⟩:∃ v:Value,v=.agg #[.int .i64 pf,.int .i64 ((pa-xa:Nat):Int),.int .i64 ((pb-xb+h:Nat):Int),.int .i64 ((pc-xc+h:Nat):Int),.int .i64 pf,.int .i64 ((pa-xa+h:Nat):Int),.int .i64 ((pb-xb:Nat):Int),.int .i64 ((pc-xc+h:Nat):Int),.int .i64 pf,.int .i64 ((pa-xa+h:Nat):Int),.int .i64 ((pb-xb+h:Nat):Int),.int .i64 ((pc-xc:Nat):Int)]:=⟨_,rfl⟩
   rw[←hAR]
   obtain⟨Cs,hCs⟩:∃ l:List (Pl × Nat),l=[(⟨pf,pa-xa,pb-xb+h,pc-xc+h⟩,840-x),(⟨pf,pa-xa+h,pb-xb,pc-xc+h⟩,840-y),(⟨pf,pa-xa+h,pb-xb+h,pc-xc⟩,840-z)]:=⟨_,rfl⟩
   have hlen:Cs.length=3:=by rw[hCs];rfl
   have HIX:Hid (∀ k (hk:k < Cs.length) (w:World),(Instr.index 167 AR (.int .i64 (k:Int))).run Tryz.prog w=.ok (pv Cs[k].1) w):=zN (fun k hk w=>by
    subst hCs hAR
    match k,hk with
    |0,_=>show _=_;kernel_rfl
    |1,_=>show _=_;kernel_rfl
    |2,_=>show _=_;kernel_rfl
    |k+3,hk=>simp at hk;omega)
   have HWT:Hid (∀ k (hk:k < Cs.length),W4.cell? ⟨wc.heap.size+1,k,none⟩=some (.int .i64 ((Cs[k].2:Nat):Int))):=zN (fun k hk=>by
    subst hCs
    match k,hk with
    |0,_=>exact g0
    |1,_=>exact g1
    |2,_=>exact g2
    |k+3,hk=>simp at hk;omega)
   have HCs:Hid (locAll n ⟨pf,pa,pb,pc⟩=Cs):=zN (by rw[HALL.out,if_neg (by omega),if_neg (by omega),hCs])
   have hb4:Below w.heap.size w W4:=hb1.trans (hbW.mono hb1.size)
   have hN4:NetAt W4 g n base (nodesL n):=hN1.below hbW
   have hT4:=hT.below hb4
   have HO:Hid (∀ k (hk:k < Cs.length),Cs[k].1.Ok):=zN (fun k hk=>(HOK.out Cs[k] (by rw[HCs.out];exact List.getElem_mem _)).1)
   have HRW:Hid (locRaw n ⟨pf,pa,pb,pc⟩=(Cs.filter (fun c=>decide (0 < c.2))).map (fun c=>(atL n c.1,c.2))):=zN (by rw[HRAW.out,HCs.out])
   clear hbW hb1 hN1 hAR hCs g0 g1 g2 k0 k1 k2 k3 hch b0 b1 b2 b3 HCs HALL HRAW HB2 HC
   clear n1 n2 n3 n4
   go_loopw [11,108] (fun v i wr=>∃ (k:Nat) (S:List (Nat × Nat)),k≤3∧i=.int .i64 k∧Hid (S=((Cs.take k).filter (fun c=>decide (0 < c.2))).map (fun c=>(atL n c.1,c.2)))∧wr.ownsRow W4.heap.size 123 2 v S.length (S.flatMap encN)∧S.length≤k∧Below W4.heap.size W4 wr) (fun v i _=>3-(intOf i).toNat)
   case atStart=>exact⟨0,[],by omega,rfl,zN rfl,World.ownsRow_nil _ _ _ _,Nat.le_refl _,zBr _ _⟩
   case round=>
    obtain⟨k,S,hk,rfl,HS,hown,hSl,hB⟩:=hrel
    by_cases hlt:k < 3
    ·have hdk:decide ((k:Int) < 3)=true:=zDt (by omega)
     have hkc:k < Cs.length:=by omega
     have ik:=HIX.out k hkc
     have wk:=zP hB (HWT.out k hkc)
     have HQ:=HO.out k hkc
     have hstep:((Cs.take (k+1)).filter (fun c=>decide (0 < c.2))).map (fun c=>(atL n c.1,c.2))=S ++ (if 0 < Cs[k].2 then [(atL n Cs[k].1,Cs[k].2)] else []):=by
      rw[List.take_succ_eq_append_getElem hkc,List.filter_append,List.map_append,←HS.out]
      by_cases h:0 < Cs[k].2<;>simp[List.filter_cons,h]
     obtain⟨cc,hcc⟩:∃ c,c=Cs[k]:=⟨_,rfl⟩
     rw[←hcc] at ik wk HQ hstep
     have HST:=zN hstep
     clear hcc hstep
     obtain⟨⟨qf,qa,qb,qc⟩,vk⟩:=cc
     have HQ:=zN HQ
     simp only[pv] at ik
     dsimp only at wk HST
     obtain⟨p8,c8,rfl,hc8⟩:=own_slice hown
     have hk0:(0:Int)≤(k:Int):=by omega
     have hk3:(k:Int) < 3:=by omega
     have hwr:=zM _ _ wk
     have hwr:wc.heap.size+1 < wr.heap.size:=hwr
     have hne:¬ (wc.heap.size+1=wr.heap.size):=by omega
     have hwW:wc.heap.size+1 < W4.heap.size:=zM _ _ (HWT.out k hkc)
     have hBs:=hB.size
     by_cases hv:0 < vk
     ·have hvb:decide ((0:Int) < (vk:Int))=true:=zDt (by omega)
      rw[if_pos hv] at HST
      go_wp2
      have c0:(wr.alloc (.cells #[.int .i64 qf,.int .i64 qa,.int .i64 qb,.int .i64 qc] 41)).cell? ⟨wr.heap.size,0,none⟩=some (.int .i64 qf):=(by simp[zO,zJ,zQ])
      have c1:(wr.alloc (.cells #[.int .i64 qf,.int .i64 qa,.int .i64 qb,.int .i64 qc] 41)).cell? ⟨wr.heap.size,1,none⟩=some (.int .i64 qa):=(by simp[zO,zJ,zQ])
      have c2:(wr.alloc (.cells #[.int .i64 qf,.int .i64 qa,.int .i64 qb,.int .i64 qc] 41)).cell? ⟨wr.heap.size,2,none⟩=some (.int .i64 qb):=(by simp[zO,zJ,zQ])
      have c3:(wr.alloc (.cells #[.int .i64 qf,.int .i64 qa,.int .i64 qb,.int .i64 qc] 41)).cell? ⟨wr.heap.size,3,none⟩=some (.int .i64 qc):=(by simp[zO,zJ,zQ])
      have cw:(wr.alloc (.cells #[.int .i64 qf,.int .i64 qa,.int .i64 qb,.int .i64 qc] 41)).cell? ⟨wc.heap.size+1,k,none⟩=some (.int .i64 (vk:Int)):=(by (try have hLt:=zM _ _ wk);(try simp only at hLt);(repeat first|rw[zO]|rw[zK _ _ _ _ (by first|(simp<;>omega)|omega)]|rw[zJ,if_neg (by first|(simp<;>omega)|omega)]);first|exact wk|(rw[zJ,if_pos (by first|(simp;done)|omega)];exact wk))
      have hbx:Below wr.heap.size wr (wr.alloc (.cells #[.int .i64 qf,.int .i64 qa,.int .i64 qb,.int .i64 qc] 41)):=(zBr wr.heap.size wr).alloc (Nat.le_refl _) _
      have hsx:wr.heap.size+1≤(wr.alloc (.cells #[.int .i64 qf,.int .i64 qa,.int .i64 qb,.int .i64 qc] 41)).heap.size:=by simp
      have hownx:(wr.alloc (.cells #[.int .i64 qf,.int .i64 qa,.int .i64 qb,.int .i64 qc] 41)).ownsRow W4.heap.size 123 2 (.slice p8 S.length c8) S.length (S.flatMap encN):=hown.alloc _
      generalize (wr.alloc (.cells #[.int .i64 qf,.int .i64 qa,.int .i64 qb,.int .i64 qc] 41))=wx at *
      refine RY.region RX.fN (fun w'=>w'.cell? ⟨wr.heap.size,0,none⟩=some (.int .i64 qf)∧w'.cell? ⟨wr.heap.size,1,none⟩=some (.int .i64 qa)∧w'.cell? ⟨wr.heap.size,2,none⟩=some (.int .i64 qb)∧w'.cell? ⟨wr.heap.size,3,none⟩=some (.int .i64 qc)∧w'.cell? ⟨wc.heap.size+1,k,none⟩=some (.int .i64 (vk:Int))) (by kernel_rfl) (by kernel_rfl) (⟨c0,c1,c2,c3,cw⟩) (fun OPS HO QR hQR=>?_)
      repeat (refine zeY (fun R hR=>?_);(first|refine zaY (by first|rfl|(rw[HO.out];rfl)) (by simp only[zA,zB,zC,zD];rfl) ?_|refine zbY (by first|rfl|(rw[HO.out];rfl)) rfl (by first|exact .inl rfl|exact .inr rfl) (by simp only[zE,zF,zG,zH];rfl) (by simp only[zA,zB,zC,zD];rfl) ?_|refine zcY (by first|rfl|(rw[HO.out];rfl)) rfl rfl (by simp only[zE,zF,zG,zH];rfl) (by simp only[zA,zB,zC,zD];rfl) ?_|(refine zdY (by first|rfl|(rw[HO.out];rfl)) rfl rfl rfl ?_;apply zEx;apply zEx;refine⟨fun w' hS K hK=>?_,?_,?_⟩;(focus (obtain⟨hS1,hS2,hS3,hS4,hS5⟩:=hS;go_wp2;exact hK _ _ (by simp only[zl,zG,zH];first|exact zf (by omega)|exact zg (by omega)|exact zh (by omega)|exact zi (by omega)|exact zj (by omega)|exact zk (by omega)|exact RX.bneB _|rfl) rfl));(focus (simp only[zA,zB,zC,zD];rfl))));refine hR _ _ ?_;clear hR R)
      refine zeY (fun R hR=>?_)
      refine zgY (by first|rfl|(rw[HO.out];rfl)) rfl (fun K hK=>?_)
      go_wp2_with fail
      have hwd:Below W4.heap.size W4 wx.drew:=(hB.trans (hbx.mono hBs)).trans ⟨rfl,rfl,rfl,Nat.le_refl _,fun _ _=>rfl⟩
      refine (at_any g n base (nodesL n) ⟨qf,qa,qb,qc⟩ wx.drew (hT4.below hwd) (hN4.below hwd) HQ.out).mono ?_
      rintro e w1 ⟨rfl,hb1⟩
      replace hb1:Below wx.heap.size wx w1:=⟨hb1.os,hb1.tape,hb1.output,hb1.size,hb1.block⟩
      rw[show (ix (nodesL n) (normal ⟨qf,qa,qb,qc⟩)).getD 0=atL n ⟨qf,qa,qb,qc⟩ from rfl]
      replace c0:=zP hb1 c0
      replace c1:=zP hb1 c1
      replace c2:=zP hb1 c2
      replace c3:=zP hb1 c3
      replace cw:=zP hb1 cw
      have hs1:=hb1.size
      have hown1:=hownx.kept (row:=none) ⟨hb1.os,hb1.tape,hb1.output,hb1.size,fun k hk _=>hb1.block k hk⟩ (by cases ho:(Value.slice p8 S.length c8).ownBlock with
       |none=>exact .inl rfl
       |some q=>exact .inr (by simp))
      have hb01:Below wr.heap.size wr w1:=hbx.trans (hb1.mono (by omega))
      clear hb1 hownx
      refine hK _ _ ⟨.inr (⟨c0,c1,c2,c3,cw⟩),hR _ _ ?_⟩;clear hK K hR R
      repeat (refine zeY (fun R hR=>?_);(first|refine zaY (by first|rfl|(rw[HO.out];rfl)) (by simp only[zA,zB,zC,zD];rfl) ?_|refine zbY (by first|rfl|(rw[HO.out];rfl)) rfl (by first|exact .inl rfl|exact .inr rfl) (by simp only[zE,zF,zG,zH];rfl) (by simp only[zA,zB,zC,zD];rfl) ?_|refine zcY (by first|rfl|(rw[HO.out];rfl)) rfl rfl (by simp only[zE,zF,zG,zH];rfl) (by simp only[zA,zB,zC,zD];rfl) ?_|(refine zdY (by first|rfl|(rw[HO.out];rfl)) rfl rfl rfl ?_;apply zEx;apply zEx;refine⟨fun w' hS K hK=>?_,?_,?_⟩;(focus (obtain⟨hS1,hS2,hS3,hS4,hS5⟩:=hS;go_wp2;exact hK _ _ (by simp only[zl,zG,zH];first|exact zf (by omega)|exact zg (by omega)|exact zh (by omega)|exact zi (by omega)|exact zj (by omega)|exact zk (by omega)|exact RX.bneB _|rfl) rfl));(focus (simp only[zA,zB,zC,zD];rfl))));refine hR _ _ ?_;clear hR R)
      refine zeY (fun R hR=>?_)
      refine zgY (by first|rfl|(rw[HO.out];rfl)) rfl (fun K hK=>?_)
      go_wp2
      refine⟨.inr (⟨(by (try have hLt:=zM _ _ c0);(try simp only at hLt);(repeat first|rw[zO]|rw[zK _ _ _ _ (by first|(simp<;>omega)|omega)]|rw[zJ,if_neg (by first|(simp<;>omega)|omega)]);first|exact c0|(rw[zJ,if_pos (by first|(simp;done)|omega)];exact c0)),(by (try have hLt:=zM _ _ c1);(try simp only at hLt);(repeat first|rw[zO]|rw[zK _ _ _ _ (by first|(simp<;>omega)|omega)]|rw[zJ,if_neg (by first|(simp<;>omega)|omega)]);first|exact c1|(rw[zJ,if_pos (by first|(simp;done)|omega)];exact c1)),(by (try have hLt:=zM _ _ c2);(try simp only at hLt);(repeat first|rw[zO]|rw[zK _ _ _ _ (by first|(simp<;>omega)|omega)]|rw[zJ,if_neg (by first|(simp<;>omega)|omega)]);first|exact c2|(rw[zJ,if_pos (by first|(simp;done)|omega)];exact c2)),(by (try have hLt:=zM _ _ c3);(try simp only at hLt);(repeat first|rw[zO]|rw[zK _ _ _ _ (by first|(simp<;>omega)|omega)]|rw[zJ,if_neg (by first|(simp<;>omega)|omega)]);first|exact c3|(rw[zJ,if_pos (by first|(simp;done)|omega)];exact c3)),(by (try have hLt:=zM _ _ cw);(try simp only at hLt);(repeat first|rw[zO]|rw[zK _ _ _ _ (by first|(simp<;>omega)|omega)]|rw[zJ,if_neg (by first|(simp<;>omega)|omega)]);first|exact cw|(rw[zJ,if_pos (by first|(simp;done)|omega)];exact cw))⟩),hR _ _ ?_⟩;clear hR R
      repeat (refine zeY (fun R hR=>?_);(first|refine zaY (by first|rfl|(rw[HO.out];rfl)) (by simp only[zA,zB,zC,zD];rfl) ?_|refine zbY (by first|rfl|(rw[HO.out];rfl)) rfl (by first|exact .inl rfl|exact .inr rfl) (by simp only[zE,zF,zG,zH];rfl) (by simp only[zA,zB,zC,zD];rfl) ?_|refine zcY (by first|rfl|(rw[HO.out];rfl)) rfl rfl (by simp only[zE,zF,zG,zH];rfl) (by simp only[zA,zB,zC,zD];rfl) ?_|(refine zdY (by first|rfl|(rw[HO.out];rfl)) rfl rfl rfl ?_;apply zEx;apply zEx;refine⟨fun w' hS K hK=>?_,?_,?_⟩;(focus (obtain⟨hS1,hS2,hS3,hS4,hS5⟩:=hS;go_wp2;exact hK _ _ (by simp only[zl,zG,zH];first|exact zf (by omega)|exact zg (by omega)|exact zh (by omega)|exact zi (by omega)|exact zj (by omega)|exact zk (by omega)|exact RX.bneB _|rfl) rfl));(focus (simp only[zA,zB,zC,zD];rfl))));refine hR _ _ ?_;clear hR R)
      refine zeY (fun R hR=>?_)
      refine zgY (by first|rfl|(rw[HO.out];rfl)) rfl (fun K hK=>?_)
      refine RX.wp_app elSh _ _ rfl W4.heap.size _ _ _ (hown1.alloc _) (by simp only[zE,zF,zG,zH]) w1.heap.size _ 1 (by simp only[zE,zF,zG,zH]) (heap_alloc_new _ _) rfl (by simp[Value.oneCell']) (by omega) (by omega) (by simp;omega) (fun v5 w5 hown5 hb5 hg5 hat5=>?_)
      have hg15:w1.grownBy w5 (Value.slice p8 S.length c8).ownBlock:=by
       have h0:w1.grownBy (w1.alloc (.cells #[.int .i64 (atL n ⟨qf,qa,qb,qc⟩:Int),.int .i64 (vk:Int)] 123)) (Value.slice p8 S.length c8).ownBlock:=by
        have:=World.grownBy_alloc w1 (.cells #[.int .i64 (atL n ⟨qf,qa,qb,qc⟩:Int),.int .i64 (vk:Int)] 123) (Value.slice p8 S.length c8).ownBlock
        exact⟨this.os,this.tape,this.output,this.size,this.block⟩
       exact h0.trans hg5
      have hnb:∀ b,wr.heap.size≤b→some b≠(Value.slice p8 S.length c8).ownBlock:=fun b hb e=>by
       have:=(hown.lt b e.symm).2;omega
      have hnw:some (wc.heap.size+1)≠(Value.slice p8 S.length c8).ownBlock:=fun e=>by
       have:=(hown.lt _ e.symm).1;omega
      have hlow:∀ q,(Value.slice p8 S.length c8).ownBlock=some q→W4.heap.size≤q:=fun q hq=>(hown.lt q hq).1
      have hB5:Below W4.heap.size W4 w5:=(hB.trans (hb01.mono hBs)).grown hg15 (by omega) hlow
      obtain⟨p5,c5,rfl,_⟩:=own_slice hown5
      have HOB:=zN (And.intro hown5 hB5)
      refine hK _ _ ⟨.inr (⟨hg15.cell c0 (hnb _ (Nat.le_refl _)),hg15.cell c1 (hnb _ (Nat.le_refl _)),hg15.cell c2 (hnb _ (Nat.le_refl _)),hg15.cell c3 (hnb _ (Nat.le_refl _)),hg15.cell cw hnw⟩),?_⟩;clear hK K;refine RY.at_ (by simp only[RX.put_some,RX.put_none,List.set_cons_zero,List.set_cons_succ];rfl) (hR _ _ ?_);clear hR R
      clear hown5 hB5
      repeat (refine zeY (fun R hR=>?_);(first|refine zaY (by first|rfl|(rw[HO.out];rfl)) (by simp only[zA,zB,zC,zD];rfl) ?_|refine zbY (by first|rfl|(rw[HO.out];rfl)) rfl (by first|exact .inl rfl|exact .inr rfl) (by simp only[zE,zF,zG,zH];rfl) (by simp only[zA,zB,zC,zD];rfl) ?_|refine zcY (by first|rfl|(rw[HO.out];rfl)) rfl rfl (by simp only[zE,zF,zG,zH];rfl) (by simp only[zA,zB,zC,zD];rfl) ?_|(refine zdY (by first|rfl|(rw[HO.out];rfl)) rfl rfl rfl ?_;apply zEx;apply zEx;refine⟨fun w' hS K hK=>?_,?_,?_⟩;(focus (obtain⟨hS1,hS2,hS3,hS4,hS5⟩:=hS;go_wp2;exact hK _ _ (by simp only[zl,zG,zH];first|exact zf (by omega)|exact zg (by omega)|exact zh (by omega)|exact zi (by omega)|exact zj (by omega)|exact zk (by omega)|exact RX.bneB _|rfl) rfl));(focus (simp only[zA,zB,zC,zD];rfl))));refine hR _ _ ?_;clear hR R)
      refine RY.wpL_nil (hQR _ _ ?_);clear hQR QR HO OPS
      go_wp2
      go_roundw
      case rel=>exact⟨k+1,S ++ [(atL n ⟨qf,qa,qb,qc⟩,vk)],by omega,by go_num,zN HST.out.symm,by rw[List.length_append,List.flatMap_append];exact HOB.out.1,by rw[List.length_append,List.length_singleton];omega,HOB.out.2⟩
      case measure=>simp[intOf];omega
     ·obtain rfl:vk=0:=by omega
      rw[if_neg hv,List.append_nil] at HST
      go_wp2
      go_roundw
      case rel=>exact⟨k+1,S,by omega,by go_num,zN HST.out.symm,hown.alloc _,by omega,hB.alloc hBs _⟩
      case measure=>simp[intOf];omega
    ·obtain rfl:k=3:=by omega
     have hSR:S=locRaw n ⟨pf,pa,pb,pc⟩:=by rw[HS.out,HRW.out,List.take_of_length_le (by omega)]
     have h0:0 < S.length:=by
      rw[hSR];exact List.length_pos_iff.2 (loc_ne h1 hn840 HP.out)
     obtain⟨g8,c8,cur8,rfl,hc8,hb8,_⟩:=own_some hown h0
     have hSd:S.Pairwise (fun c d=>c.1≠d.1):=by rw[hSR];exact loc_keys h1 (by omega) hn840 HP.out
     have hSn:∀ x∈S,x.1 < 100000:=by
      intro x hx
      rw[hSR] at hx
      have hx1:=(loc_nodes h1 hn840 HP.out x hx).1
      have hl:=nodes_len h1 h8
      have h64:=Nat.mul_le_mul h8 h8
      have h640:10*n*n≤640:=by rw[Nat.mul_assoc];omega
      omega
     have HSR:=zN hSR
     clear hSR
     go_wp2_with fail
     refine (sortShares_any wr W4.heap.size g8 S c8 h0 hSn hSd hown hc8 (by omega)).mono ?_
     rintro e w6 ⟨rfl,hg6,T,hperm,hasc,hsh⟩
     have hB6:=hB.grown hg6 hB.size (fun k hk=>by injection hk with hk;omega)
     have HF:=zN (And.intro hperm (And.intro hasc (And.intro hsh (hb4.trans (hB6.mono hb4.size)))))
     have hTl:T.length=S.length:=hperm.length_eq
     have HTL:=zN hTl
     clear hperm hasc hsh hB6 hg6 hown hTl
     go_wp2
     go_ret
     exact⟨g8,c8,T,by rw[HTL.out];rfl,by rw[HTL.out];exact hc8,by rw[←HSR.out];exact HF.out.1,HF.out.2.1,HF.out.2.2.1,HF.out.2.2.2⟩
end Go.Proofs.YtednaajanciabaaGreatDoor
