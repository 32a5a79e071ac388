import Derived.Test.YtojkamfabapcoaaGreatDoorKRC
import Derived.Test.YtojkamfabapcoaaGreatDoorKRVec
import Derived.Test.YtojkamfabapcoaaGreatDoorKTerms
import Derived.Test.YtojkamfabapcoaaGreatDoorKLaw23
import Derived.Test.YtojkamfabapcoaaGreatDoorKRegion
import Derived.Test.YtojkamfabapcoaaGreatDoorApply
import Derived.Test.YtojkamfabapcoaaGreatDoorKLists
import Derived.Test.YtojkamfabapcoaaGreatDoorKCodes
import Derived.Test.YtojkamfabapcoaaGreatDoorKCost
import Derived.Test.YtojkamfabapcoaaGreatDoorKEn
import Derived.Test.YtojkamfabapcoaaGreatDoorKRef
set_option maxRecDepth 100000
set_option maxHeartbeats 8000000
set_option linter.unusedSimpArgs false
set_option linter.unusedVariables false
namespace Go.Proofs.YtojkamfabapcoaaGreatDoor
open Go.RowKit Go.Grid
theorem rvec23_no (S:Sy) (v:Value) (p:Option Addr) (x:List Int) (xc:Nat) (w:World) (hS:SysIn w v S) (hl:SyLen S) (h:sysErr S≠0) :
  Calls Tryz.prog 74 #[v,.slice p x.length xc] w fun e w'=>e=.returned (.int .i64 (sysErr S))∧Below w.heap.size w w':=by
 obtain⟨E,hE⟩:∃ E,E=sysErr S:=⟨_,rfl⟩
 have HE:=zN hE
 rw[←hE] at h ⊢
 have hbe:(E != 0)=true:=by rw[bne_iff_ne];exact h
 have HS:=zN hS
 obtain⟨p1,d1,p2,d2,rfl,_⟩:=hS
 clear hE
 go_enter Tryz.func74,Tryz.ntmps74
 go_wp2_with fail
 refine (rccheck_any S _ _ (HS.out.below (by repeat (first|(with_reducible first|assumption|exact zBr _ _|refine zBs ?_ (by first|omega|(simp<;>omega)) _|refine zBa ?_ (by first|omega|(simp<;>omega)) _|apply zBd)|assumption))) hl).mono ?_
 rintro e w1 ⟨rfl,hb1⟩
 rw[←HE.out]
 have hB:Below w.heap.size w w1:=Below.trans (by repeat (first|(with_reducible first|assumption|exact zBr _ _|refine zBs ?_ (by first|omega|(simp<;>omega)) _|refine zBa ?_ (by first|omega|(simp<;>omega)) _|apply zBd)|assumption)) (hb1.mono (by simp<;>omega))
 clear hb1
 go_wp2
 go_ret
 exact⟨rfl,hB⟩
theorem rvec23_ok (S:Sy) (v:Value) (p:Option Addr) (x:List Int) (xc:Nat) (w:World) (hS:SysIn w v S) (hok:SyOk S) (hl:SyLen S) (hV:VecAt w p x) (hxl:x.length≤1000000000) (hI:I64L x) :
  Calls Tryz.prog 74 #[v,.slice p x.length xc] w fun e w'=>e=.returned (.int .i64 (vecErr S.f S.s S.a x))∧Below w.heap.size w w':=by
 have hE:=zN (syOk_iff.2 hok)
 have HS:=zN hS
 have hpv:Hid (prv S.f S.s S.a=.agg #[.int .i64 S.f,.int .i64 S.s,.int .i64 S.a]):=zN rfl
 obtain⟨p1,d1,p2,d2,rfl,_⟩:=hS
 go_enter Tryz.func74,Tryz.ntmps74
 go_wp2_with fail
 have hb0:Below w.heap.size w (w.alloc (.cells #[.int .i64 S.f,.int .i64 S.s,.int .i64 S.a,.slice p1 S.rows.length d1,.slice p2 S.targets.length d2] 27)):=(by repeat (first|(with_reducible first|assumption|exact zBr _ _|refine zBs ?_ (by first|omega|(simp<;>omega)) _|refine zBa ?_ (by first|omega|(simp<;>omega)) _|apply zBd)|assumption))
 have h5:Five (w.alloc (.cells #[.int .i64 S.f,.int .i64 S.s,.int .i64 S.a,.slice p1 S.rows.length d1,.slice p2 S.targets.length d2] 27)) w.heap.size S.f S.s S.a (.slice p1 S.rows.length d1) (.slice p2 S.targets.length d2):=⟨(by simp[zO,zJ,zQ]),(by simp[zO,zJ,zQ]),(by simp[zO,zJ,zQ]),(by simp[zO,zJ,zQ]),(by simp[zO,zJ,zQ])⟩
 refine (rccheck_any S _ _ (HS.out.below hb0) hl).mono ?_
 rintro e w1 ⟨rfl,hb1⟩
 rw[hE.out]
 obtain⟨y0,y1,y2,y3,y4⟩:=h5.below hb1
 have hB:Below w.heap.size w w1:=hb0.trans (hb1.mono hb0.size)
 have hV1:=hV.below hB
 clear hb1 hb0 h5 hV
 go_wp2_with fail
 have hr:=rvector_any S.f S.s S.a p x xc w1 hV1 hxl hI
 rw[hpv.out] at hr
 refine hr.mono ?_
 rintro e w2 ⟨rfl,hb2⟩
 have hB2:=hB.trans (hb2.mono hB.size)
 go_wp2
 go_ret
 exact⟨rfl,hB2⟩
theorem IntsAt.below {w w':World} {b o:Nat} {zs:List Int} (h:IntsAt w b o zs) (hb:Below w.heap.size w w'):IntsAt w' b o zs:=fun j hj=>
 h.block (hb.block b (zM _ _ (h j hj).1)) j hj
theorem rspread_any (r:Rw) (q:Option Addr) (cap:Nat) (y:Int) (b n oc:Nat) (Z:List Int) (w:World) (hn:Z.length=n) (hI:IntsAt w b 0 (Z.map wrap64)) (hb:b < w.heap.size) (hS:∀ w',w.grownBy w' (some b)→ShIn w' q r.sh) (hc:r.sh.length≤cap) (hok:TermOk n (r,y)) :
  Calls Tryz.prog 82 #[.slice (some ⟨b,0,none⟩) n oc,rwv r q cap,.int .i64 y] w fun e w'=>e=.returned (.tuple #[])∧IntsAt w' b 0 ((spread Z (rowT (r,y))).map wrap64)∧w.grownBy w' (some b):=by
 have hrv:rwv r q cap=.agg #[.slice q r.sh.length cap,.int .i64 r.value,.int .i64 r.weight,.int .i64 r.report]:=rfl
 rw[hrv]
 clear hrv
 have HS:=zN hS
 have HOK:=zN hok
 clear hS hok
 go_enter Tryz.func82,Tryz.ntmps82
 go_wp2
 obtain⟨Rb,hRb⟩:∃ Rb,Rb=w.heap.size:=⟨_,rfl⟩
 have hRl:¬ (Rb=b):=by omega
 refine absW (F:=fun w'=>w'.cell? ⟨Rb,0,none⟩=some (.slice q r.sh.length cap)∧w'.cell? ⟨Rb,2,none⟩=some (.int .i64 r.weight)∧IntsAt w' b 0 (Z.map wrap64)∧w.grownBy w' (some b)) (by rw[hRb];exact⟨(by simp[zO,zJ,zQ]),(by simp[zO,zJ,zQ]),hI.alloc1 _,World.grownBy_alloc _ _ _⟩) ?_
 rintro W1 ⟨c0,c2,hI1,hg1⟩
 rw[←hRb]
 have HI1:=zN hI1
 have HG1:=zN hg1
 have HNL:=zN hn
 have hgr:=World.grownBy.refl W1 (some b)
 obtain⟨hw1,hw2⟩:=HOK.out.2.1
 obtain⟨hy1,hy2⟩:=HOK.out.2.2.1
 have hshl:=HOK.out.2.2.2
 dsimp only at hw1 hw2 hy1 hy2 hshl
 have HSH:=zN HOK.out.1
 clear hI hI1 hRb hn HOK
 go_loopw [6] (fun i wr=>∃ j:Nat,j≤r.sh.length∧i=.int .i64 j∧Hid (IntsAt wr b 0 ((spread Z ((rowT (r,y)).take j)).map wrap64))∧W1.grownBy wr (some b)) (fun i _=>r.sh.length-(intOf i).toNat)
 case atStart=>exact⟨0,Nat.zero_le _,rfl,zN (by simpa[spread] using HI1.out),hgr⟩
 case round=>
  clear hgr
  obtain⟨j,hj,rfl,HI,hg⟩:=hrel
  have c0r:=hg.cell c0 (by simp;exact hRl)
  by_cases hltj:j < r.sh.length
  ·have hdj:decide ((j:Int) < (r.sh.length:Int))=true:=zDt (by omega)
   have c2r:=hg.cell c2 (by simp;exact hRl)
   obtain⟨bs,o,rfl,hbl,hcell⟩:=(HS.out wr (HG1.out.trans hg)).get (by omega)
   obtain⟨e0,e1⟩:=hcell j hltj
   obtain⟨⟨hc1,hc2⟩,hc3,hc4⟩:=HSH.out r.sh[j] (List.getElem_mem _)
   have HTK:Hid ((rowT (r,y)).take (j+1)=(rowT (r,y)).take j ++ [(r.sh[j].1,r.weight*r.sh[j].2*y)]):=zN (by
    rw[List.take_succ_eq_append_getElem (by simp[rowT];exact hltj)]
    simp only[rowT,List.getElem_map]
    rw[show r.sh[j].2*(r.weight*y)=r.weight*r.sh[j].2*y by rw[←Int.mul_assoc,Int.mul_comm r.sh[j].2 r.weight]])
   obtain⟨c,hce⟩:∃ c,c=r.sh[j]:=⟨_,rfl⟩
   rw[←hce] at e0 e1 hc1 hc2 hc3 hc4 HTK
   obtain⟨x0,x1⟩:=c
   dsimp only at e0 e1 hc1 hc2 hc3 hc4 HTK
   obtain⟨ia,rfl⟩:∃ ia:Nat,x0=(ia:Int):=⟨x0.toNat,by omega⟩
   have hia:ia < n:=by omega
   have p1:=fprod_bd (a:=r.weight) (b:=x1) (A:=100) (B:=840) (by omega) hw2 (by omega) (by omega) (by omega)
   obtain⟨v1,hv1⟩:∃ v1,r.weight*x1=v1:=⟨_,rfl⟩
   have p0:0≤v1:=by rw[←hv1];exact Int.mul_nonneg (by omega) (by omega)
   rw[hv1] at p1 HTK
   have p2:=fprod_bd (a:=v1) (b:=y) (A:=84000) (B:=8589934592) p0 (by omega) (by omega) (by omega) (by omega)
   obtain⟨v2,hv2⟩:∃ v2,v1*y=v2:=⟨_,rfl⟩
   rw[hv2] at p2 HTK
   obtain⟨oo,ho⟩:∃ oo,oo=spread Z ((rowT (r,y)).take j):=⟨_,rfl⟩
   have hol:(oo.map wrap64).length=n:=by rw[ho,List.length_map,spread_len,HNL.out]
   have HNEW:Hid (spread Z ((rowT (r,y)).take (j+1))=addT oo ((ia:Int),v2)):=zN (by
    rw[HTK.out,spread_snoc,←ho])
   rw[←ho] at HI
   obtain⟨z,hz⟩:∃ z,z=oo.map wrap64:=⟨_,rfl⟩
   rw[←hz] at hol HI
   obtain⟨k1,k2⟩:=HI.out ia (by omega)
   rw[Nat.zero_add] at k1 k2
   obtain⟨u,hu⟩:∃ u,u=z[ia]'(by omega):=⟨_,rfl⟩
   rw[←hu] at k1
   have hI6:Hid (IntsAt (wr.setCell ⟨b,ia,none⟩ (.int .i64 (wrap64 (u+v2)))) b 0 ((spread Z ((rowT (r,y)).take (j+1))).map wrap64)):=zN (by
    have h9:=HI.out.set ia (wrap64 (u+v2));rw[Nat.zero_add] at h9
    rw[HNEW.out,addT_wrap,←hz]
    dsimp only
    rw[Int.toNat_natCast,i64_get (by omega),←hu]
    exact h9)
   have hj0:(0:Int)≤(j:Int):=by omega
   have hjI:(j:Int) < (r.sh.length:Int):=by omega
   have hia0:(0:Int)≤(ia:Int):=by omega
   have hiaI:(ia:Int) < (n:Int):=by omega
   clear hce hcell HTK hz ho hu HI HNEW HSH HS
   go_wp2
   refine RY.region RX.fN (fun w'=>w'.cell? ⟨Rb,0,none⟩=some (.slice (some ⟨bs,o,none⟩) r.sh.length cap)∧w'.cell? ⟨Rb,2,none⟩=some (.int .i64 r.weight)∧w'.cell? ⟨bs,o+j*2,none⟩=some (.int .i64 (ia:Int))∧w'.cell? ⟨bs,o+j*2+1,none⟩=some (.int .i64 x1)∧w'.cell? ⟨b,ia,none⟩=some (.int .i64 u)) (by kernel_rfl) (by kernel_rfl) (⟨c0r,c2r,e0,e1,k1⟩) (fun OPS HO QR hQR=>?_)
   repeat (refine zeY (fun R hR=>?_);(first|refine zaY (by first|rfl|(rw[HO.out];rfl)) (by simp only[zA,zB,zC,zD];rfl) ?_|refine zbY (by first|rfl|(rw[HO.out];rfl)) rfl (by first|exact .inl rfl|exact .inr rfl) (by simp only[zE,zF,zG,zH];rfl) (by simp only[zA,zB,zC,zD];rfl) ?_|refine zcY (by first|rfl|(rw[HO.out];rfl)) rfl rfl (by simp only[zE,zF,zG,zH];rfl) (by simp only[zA,zB,zC,zD];rfl) ?_|(refine zdY (by first|rfl|(rw[HO.out];rfl)) rfl rfl rfl ?_;apply zEx;apply zEx;refine⟨fun w' hS K hK=>?_,?_,?_⟩;(focus (obtain⟨hS1,hS2,hS3,hS4,hS5⟩:=hS;go_wp2;exact hK _ _ (by simp only[zl,zG,zH];first|exact zf (by omega)|exact zg (by omega)|exact zh (by omega)|exact zi (by omega)|exact zj (by omega)|exact zk (by omega)|exact RX.bneB _|rfl) rfl));(focus (simp only[zA,zB,zC,zD];rfl))));refine hR _ _ ?_;clear hR R)
   refine zeY (fun R hR=>?_)
   refine zgY (by first|rfl|(rw[HO.out];rfl)) rfl (fun K hK=>?_)
   go_wp2
   first|refine⟨(by first|exact .inl rfl|exact .inl trivial|trivial),hR _ _ (RY.wpL_nil (hQR _ _ ?_))⟩|refine hR _ _ (RY.wpL_nil (hQR _ _ ?_))|refine hQR _ _ ?_
   (try clear hR);(try clear R);clear hQR QR HO OPS
   go_wp2
   go_roundw
   case rel=>exact⟨j+1,by omega,by go_num,hI6,grown_drew (hg.trans (grownBy_setCell _ _ _ _))⟩
   case measure=>simp[intOf];omega
  ·have hdj:decide ((j:Int) < (r.sh.length:Int))=false:=zDf (by omega)
   obtain rfl:j=r.sh.length:=by omega
   have HR2:Hid (IntsAt wr b 0 ((spread Z (rowT (r,y))).map wrap64)):=zN (by
    have e:(rowT (r,y)).take r.sh.length=rowT (r,y):=List.take_of_length_le (by simp[rowT])
    rw[←e];exact HI.out)
   have HGF:=zN (HG1.out.trans hg)
   clear hg HI
   go_wp2
   refine bodyPost_end (results_none rfl _ _ _) rfl ?_
   exact⟨rfl,HR2.out,HGF.out⟩
open Go.RowKit Go.Grid Go.Shelf Go.Proofs
theorem rright_no (S:Sy) (v:Value) (w:World) (hS:SysIn w v S) (hl:SyLen S) (h:sysErr S≠0) :
  Calls Tryz.prog 32 #[v] w fun e w'=>e=.returned (.tuple #[.slice none 0 0,.int .i64 (sysErr S)])∧Below w.heap.size w w':=by
 have HH:Hid (∀ w2 v2,SysIn w2 v2 S→Calls Tryz.prog 13 #[v2] w2 fun e w'=>e=.returned (.int .i64 (sysErr S))∧Below w2.heap.size w2 w'):=zN (fun w2 v2 h2=>rccheck_any S v2 w2 h2 hl)
 obtain⟨E,hE⟩:∃ E,E=sysErr S:=⟨_,rfl⟩
 rw[←hE] at h HH ⊢
 have hbe:(E != 0)=true:=by rw[bne_iff_ne];exact h
 have HS:=zN hS
 obtain⟨p1,d1,p2,d2,rfl,_⟩:=hS
 clear hE
 go_enter Tryz.func32,Tryz.ntmps32
 go_wp2_with fail
 refine (HH.out _ _ (HS.out.below (by repeat (first|(with_reducible first|assumption|exact zBr _ _|refine zBs ?_ (by first|omega|(simp<;>omega)) _|refine zBa ?_ (by first|omega|(simp<;>omega)) _|apply zBd)|assumption)))).mono ?_
 rintro e w1 ⟨rfl,hb1⟩
 have hB:Below w.heap.size w w1:=Below.trans (by repeat (first|(with_reducible first|assumption|exact zBr _ _|refine zBs ?_ (by first|omega|(simp<;>omega)) _|refine zBa ?_ (by first|omega|(simp<;>omega)) _|apply zBd)|assumption)) (hb1.mono (by simp<;>omega))
 clear hb1
 go_wp2
 go_ret2
 exact⟨rfl,hB⟩
theorem rright_ok (S:Sy) (v:Value) (w:World) (hS:SysIn w v S) (hok:SyOk S) :
  Calls Tryz.prog 32 #[v] w fun e w'=>∃ N,e=.returned (.tuple #[.slice (some ⟨N,0,none⟩) S.n S.n,.int .i64 0])∧IntsAt w' N 0 (rightL S)∧w.heap.size≤N∧Below w.heap.size w w':=by
 have hE:sysErr S=0:=syOk_iff.2 hok
 have HS:=zN hS
 have HOK:=zN hok
 obtain⟨p1,d1,p2,d2,rfl,hd1,hd2,hR,hTg⟩:=hS
 have HR:=zN hR
 have HTG:=zN hTg
 obtain⟨hn3,hn4,hn5⟩:=hok.nodes
 have hpr:=hok.1
 have hf1:1≤S.f:=hpr.1
 have hf8:S.f≤8:=hpr.2.1
 have htl:S.targets.length=S.rows.length:=hok.2.2.1
 have hrl:S.rows.length≤200:=hok.2.1
 obtain⟨n,hn⟩:∃ n,n=S.n:=⟨_,rfl⟩
 rw[←hn] at hn3 hn4 hn5 ⊢
 have HN:=zN hn
 have HN3:=zN hn3
 have HTL:=zN htl
 have hzl:(S.rows.zip S.targets).length=S.rows.length:=by rw[List.length_zip,htl];omega
 have HZL:=zN hzl
 have HZT:Hid (∀ t (h1:t < S.rows.length) (h2:t < S.targets.length),TermOk n (S.rows[t],S.targets[t])):=zN (fun t h1 h2=>by
  have:=(hok.zipT (S.rows.zip S.targets)[t] (List.getElem_mem (by omega))).1
  rw[List.getElem_zip,←hn] at this
  exact this)
 have HFIN:Hid (∀ T,T=tAll (S.rows.zip S.targets)→(spread (List.replicate n 0) T).map wrap64=rightL S):=zN (fun T hT=>by
  rw[hT,hn];exact wrap_map ((rightL_bd hok).mono (by omega)))
 clear hR hTg hok hn hn3 hpr htl hzl
 have hmk:=run_make_row' (P:=Tryz.prog) 25 3 (.int .i64 0) 8 Tryz.underlying25 (by kernel_rfl) rfl .i64 .i64 n (by omega) (by omega)
 go_enter Tryz.func32,Tryz.ntmps32
 go_wp2_with fail
 refine (rccheck_any S _ _ (HS.out.below (by repeat (first|(with_reducible first|assumption|exact zBr _ _|refine zBs ?_ (by first|omega|(simp<;>omega)) _|refine zBa ?_ (by first|omega|(simp<;>omega)) _|apply zBd)|assumption))) HOK.out.len).mono ?_
 rintro e w1 ⟨rfl,hb1⟩
 rw[hE]
 have hB:Below w.heap.size w w1:=Below.trans (by repeat (first|(with_reducible first|assumption|exact zBr _ _|refine zBs ?_ (by first|omega|(simp<;>omega)) _|refine zBa ?_ (by first|omega|(simp<;>omega)) _|apply zBd)|assumption)) (hb1.mono (by simp<;>omega))
 have c0:w1.cell? ⟨w.heap.size,0,none⟩=some (.int .i64 S.f):=zP hb1 (by simp[zO,zJ,zQ])
 have c1:w1.cell? ⟨w.heap.size,1,none⟩=some (.int .i64 S.s):=zP hb1 (by simp[zO,zJ,zQ])
 have c2:w1.cell? ⟨w.heap.size,2,none⟩=some (.int .i64 S.a):=zP hb1 (by simp[zO,zJ,zQ])
 have c3:w1.cell? ⟨w.heap.size,3,none⟩=some (.slice p1 S.rows.length d1):=zP hb1 (by simp[zO,zJ,zQ])
 have c4:w1.cell? ⟨w.heap.size,4,none⟩=some (.slice p2 S.targets.length d2):=zP hb1 (by simp[zO,zJ,zQ])
 have hszw:w.heap.size < w1.heap.size:=zM _ _ c0
 clear hb1 hE
 go_wp2_with fail
 refine (rnn_any _ hf1 hf8 _).mono ?_
 rintro e w2 ⟨rfl,rfl⟩
 rw[←HN3.out]
 go_wp2
 obtain⟨N,hN⟩:∃ N,N=w1.heap.size:=⟨_,rfl⟩
 rw[←hN]
 refine absW (F:=fun w'=>IntsAt w' N 0 (List.replicate n 0)∧w1.grownBy w' (some N)) ⟨?_,?_⟩ ?_
 ·rw[hN];exact IntsAt.made w1 n
 ·exact World.grownBy_alloc _ _ _
 rintro W3 ⟨hI3,hg3⟩
 have hwN:w.heap.size≤N:=by omega
 have hne:¬ (w.heap.size=N):=by omega
 have HI3:=zN hI3
 have HB:=zN hB
 have HNW:Hid (N=w1.heap.size):=zN hN
 clear hN hmk c0 c1 c2 hB hI3
 go_loopw [6] (fun i wr=>∃ t:Nat,t≤S.rows.length∧i=.int .i64 t∧Hid (IntsAt wr N 0 ((spread (List.replicate n 0) (tTo (S.rows.zip S.targets) t)).map wrap64))∧w1.grownBy wr (some N)) (fun i _=>S.rows.length-(intOf i).toNat)
 case atStart=>exact⟨0,Nat.zero_le _,rfl,zN (by simpa[spread,tTo,wrap64] using HI3.out),hg3⟩
 case round=>
  clear hg3 HI3
  obtain⟨t,ht,rfl,HI,hg⟩:=hrel
  have m3:=hg.cell c3 (by simp;exact hne)
  have m4:=hg.cell c4 (by simp;exact hne)
  by_cases hlt:t < S.rows.length
  ·have hdk:decide ((t:Int) < (S.rows.length:Int))=true:=zDt (by omega)
   have hbw:Below w.heap.size w wr:=HB.out.grown hg HB.out.size (fun k hk=>by injection hk with hk;omega)
   obtain⟨bR,oR,rfl,hbR,hcR⟩:=HR.out.get (by omega)
   obtain⟨q,cap,g0,gcap,gsh,g1,g2,g3⟩:=hcR t hlt
   replace g0:=zP hbw g0
   replace g1:=zP hbw g1
   replace g2:=zP hbw g2
   replace g3:=zP hbw g3
   have htt:t < S.targets.length:=by rw[HTL.out];exact hlt
   obtain⟨bT,oT,rfl,hbT,hcT⟩:=HTG.out.cell (by omega)
   have e0:=zP hbw (hcT t htt)
   have hok1:=HZT.out t hlt htt
   have HSuc:Hid (tTo (S.rows.zip S.targets) (t+1)=tTo (S.rows.zip S.targets) t ++ rowT (S.rows[t],S.targets[t])):=zN (by
    rw[tTo_succ (by rw[HZL.out];exact hlt),List.getElem_zip])
   obtain⟨r,hr⟩:∃ r,r=S.rows[t]:=⟨_,rfl⟩
   obtain⟨y,hy⟩:∃ y,y=S.targets[t]:=⟨_,rfl⟩
   rw[←hr] at g0 gcap gsh g1 g2 g3 hok1 HSuc
   rw[←hy] at e0 hok1 HSuc
   have HG0:=zN gsh
   have HK1:=zN hok1
   have HBW:=zN hbw
   have hrw:Hid (rwv r q cap=.agg #[.slice q r.sh.length cap,.int .i64 r.value,.int .i64 r.weight,.int .i64 r.report]):=zN rfl
   obtain⟨Z,hZ⟩:∃ Z,Z=spread (List.replicate n 0) (tTo (S.rows.zip S.targets) t):=⟨_,rfl⟩
   have HZl:Hid (Z.length=n):=zN (by rw[hZ,spread_len,List.length_replicate])
   have HNEW:Hid (spread (List.replicate n 0) (tTo (S.rows.zip S.targets) (t+1))=spread Z (rowT (r,y))):=zN (by rw[HSuc.out,spread_append,←hZ])
   rw[←hZ] at HI
   have hNw:N < wr.heap.size:=zM _ _ (HI.out 0 (by rw[List.length_map,HZl.out];omega)).1
   have ht0:(0:Int)≤(t:Int):=by omega
   have htI:(t:Int) < (S.rows.length:Int):=by omega
   have htT:(t:Int) < (S.targets.length:Int):=by omega
   have HG:=zN hg
   clear hr hy hcR hcT gsh hok1 hbw hZ HSuc hg
   go_wp2
   refine RY.region RX.fN (fun w'=>w'.cell? ⟨w.heap.size,3,none⟩=some (.slice (some ⟨bR,oR,none⟩) S.rows.length d1)∧w'.cell? ⟨w.heap.size,4,none⟩=some (.slice (some ⟨bT,oT,none⟩) S.targets.length d2)∧w'.cell? ⟨bR,oR+t*4,none⟩=some (.slice q r.sh.length cap)∧w'.cell? ⟨bR,oR+t*4+1,none⟩=some (.int .i64 r.value)∧w'.cell? ⟨bR,oR+t*4+2,none⟩=some (.int .i64 r.weight)∧w'.cell? ⟨bR,oR+t*4+3,none⟩=some (.int .i64 r.report)∧w'.cell? ⟨bT,oT+t,none⟩=some (.int .i64 y)) (by kernel_rfl) (by kernel_rfl) (⟨m3,m4,g0,g1,g2,g3,e0⟩) (fun OPS HO QR hQR=>?_)
   repeat (refine zeY (fun R hR=>?_);(first|refine zaY (by first|rfl|(rw[HO.out];rfl)) (by simp only[zA,zB,zC,zD];rfl) ?_|refine zbY (by first|rfl|(rw[HO.out];rfl)) rfl (by first|exact .inl rfl|exact .inr rfl) (by simp only[zE,zF,zG,zH];rfl) (by simp only[zA,zB,zC,zD];rfl) ?_|refine zcY (by first|rfl|(rw[HO.out];rfl)) rfl rfl (by simp only[zE,zF,zG,zH];rfl) (by simp only[zA,zB,zC,zD];rfl) ?_|(refine zdY (by first|rfl|(rw[HO.out];rfl)) rfl rfl rfl ?_;apply zEx;apply zEx;refine⟨fun w' hS K hK=>?_,?_,?_⟩;(focus (obtain⟨hS1,hS2,hS3,hS4,hS5,hS6,hS7⟩:=hS;go_wp2;exact hK _ _ (by simp only[zl,zG,zH];first|exact zf (by omega)|exact zg (by omega)|exact zh (by omega)|exact zi (by omega)|exact zj (by omega)|exact zk (by omega)|exact RX.bneB _|rfl) rfl));(focus (simp only[zA,zB,zC,zD];rfl))));refine hR _ _ ?_;clear hR R)
   refine zeY (fun R hR=>?_)
   refine zgY (by first|rfl|(rw[HO.out];rfl)) rfl (fun K hK=>?_)
   go_wp2_with fail
   rw[←hrw.out]
   refine (rspread_any r q cap y N n n Z wr.drew HZl.out (show IntsAt wr.drew N 0 _ from HI.out) (show N < wr.drew.heap.size from hNw) (fun w' hg'=>HG0.out.below ((HBW.out.drew).grown hg' HBW.out.size (fun k hk=>by injection hk with hk;omega))) gcap HK1.out).mono ?_
   rintro e w6 ⟨rfl,hI6,hg6⟩
   have HI6:=zN hI6
   have HG6:Hid (w1.grownBy w6 (some N)):=zN ((grw_drew HG.out).trans hg6)
   clear hI6 hg6
   refine hK _ _ ⟨(by first|exact .inl rfl|exact .inl trivial|trivial),hR _ _ ?_⟩;clear hK K hR R
   refine RY.wpL_nil (hQR _ _ ?_);clear hQR QR HO OPS
   go_wp2
   go_roundw
   case rel=>exact⟨t+1,by omega,by go_num,by rw[HNEW.out];exact HI6,HG6.out⟩
   case measure=>simp[intOf];omega
  ·have hdk:decide ((t:Int) < (S.rows.length:Int))=false:=zDf (by omega)
   obtain rfl:t=S.rows.length:=by omega
   rw[HFIN.out _ (by rw[←tTo_all,HZL.out])] at HI
   have HBF:Hid (Below w.heap.size w wr):=zN (HB.out.grown hg HB.out.size (fun k hk=>by injection hk with hk;omega))
   clear hg
   go_wp2
   go_ret2
   exact⟨N,rfl,HI.out,hwN,HBF.out⟩
theorem rover23_ok (S:Sy) (v:Value) (p:Option Addr) (x:List Int) (xc:Nat) (pe:Option Addr) (ce b5:Nat) (w:World) (hS:SysIn w v S) (hok:SyOk S) (hV:VecAt w p x) (hvo:VecOk S.f S.s S.a x)
  (hpe:0 < (edgesL S.f.toNat).length→pe=some ⟨b5,0,none⟩) (hP:EdsAt w b5 (edgesL S.f.toNat)) (hce:(edgesL S.f.toNat).length≤ce) :
  Calls Tryz.prog 79 #[.slice pe (edgesL S.f.toNat).length ce,v,.slice p x.length xc] w fun e w'=>∃ N,e=.returned (.slice (some ⟨N,0,none⟩) S.n S.n)∧IntsAt w' N 0 (multL S x)∧w.heap.size≤N∧Below w.heap.size w w':=by
 have HS:=zN hS
 have HOK:=zN hok
 obtain⟨p1,d1,p2,d2,rfl,hd1,hd2,hR,hTg⟩:=hS
 have HR:=zN hR
 have HX:=zN hV
 have hxb:Bd 1048576 x:=hvo.2.2
 have HXB:Hid (Bd 1099511627776 x):=zN (hxb.mono (by omega))
 have hxn:x.length=S.n:=vecOk_n hok hvo
 obtain⟨hn3,hn4,hn5⟩:=hok.nodes
 have hpr:=hok.1
 have hrl:S.rows.length≤200:=hok.2.1
 have hf1:1≤S.f.toNat:=by have:=hpr.1;omega
 have hf8:S.f.toNat≤8:=by have:=hpr.2.1;omega
 have hfn:((S.f.toNat:Nat):Int)=S.f:=Int.toNat_of_nonneg (by have:=hpr.1;omega)
 have hDin:=edges_in hf1 hf8
 have hDl:=edges_len (n:=S.f.toNat) hf8
 have hM:((nodesL S.f.toNat).length:Int)=(x.length:Int):=by
  rw[nodes_len hf1 hf8,hxn,hn3];push_cast;rw[hfn];omega
 rw[hM] at hDin
 have hpv:Hid (prv S.f S.s S.a=.agg #[.int .i64 S.f,.int .i64 S.s,.int .i64 S.a]):=zN rfl
 have HOV:Hid (∀ w',EdsAt w' b5 (edgesL S.f.toNat)→VecAt w' p x→Calls Tryz.prog 114 #[.slice pe (edgesL S.f.toNat).length ce,.agg #[.int .i64 S.f,.int .i64 S.s,.int .i64 S.a],.slice p x.length xc] w' fun e w''=>∃ N,e=.returned (.slice (some ⟨N,0,none⟩) x.length x.length)∧IntsAt w'' N 0 (applyL S.s S.a x (edgesL S.f.toNat))∧w'.heap.size≤N∧Below w'.heap.size w' w''):=zN (fun w' h1 h2=>by
  have h:=rover_any S.f S.s S.a pe ce b5 (edgesL S.f.toNat) p x xc w' hpe h1 hce hDin hDl h2 (by have:=hpr.2.2.1;omega) hpr.2.2.2.1 hpr.2.2.2.2.1 hpr.2.2.2.2.2 hxb (by omega) (by omega)
  rw[hpv.out] at h
  exact h)
 have HMB:=zN (multL_bd hok hvo)
 have HRT:Hid (∀ t (h1:t < S.rows.length),TermOk S.n (S.rows[t],valL S.rows[t].sh x)):=zN (fun t h1=>(hok.rfT hxb (S.rows[t],valL S.rows[t].sh x) (by unfold rfM;exact List.mem_map.2 ⟨_,List.getElem_mem h1,rfl⟩)).1)
 obtain⟨D,hD⟩:∃ D,D=edgesL S.f.toNat:=⟨_,rfl⟩
 rw[←hD] at HOV hP ⊢
 have HRF:Hid ((rfM S x).length=S.rows.length):=zN (by simp[rfM])
 have HRG:Hid (∀ t (h1:t < (rfM S x).length),(rfM S x)[t]=(S.rows[t]'(by simpa[rfM] using h1),valL (S.rows[t]'(by simpa[rfM] using h1)).sh x)):=zN (fun t h1=>by simp[rfM])
 obtain⟨A,hA⟩:∃ A,A=applyL S.s S.a x D:=⟨_,rfl⟩
 have hAl:A.length=x.length:=by rw[hA,apL_len]
 have HAB:Hid (A.map wrap64=A):=zN (by
  refine wrap_map ?_
  rw[hA,hD]
  exact (applyL_bd (vecOk_nat hvo)).mono (by omega))
 have HMU:Hid (multL S x=spread A (tAll (rfM S x))):=zN (by unfold multL;rw[hA,hD])
 rw[←hA] at HOV
 obtain⟨n,hn⟩:∃ n,n=S.n:=⟨_,rfl⟩
 rw[←hn] at hn3 hn4 hn5 hxn HRT ⊢
 have HXN:=zN hxn
 have HAL:Hid (A.length=n):=zN (by omega)
 have HPD:=zN hP
 clear hR hTg hV hxb hok hvo hpr hf1 hf8 hfn hDin hDl hM hpe hP hce hD hA hAl hn hn3 hxn
 go_enter Tryz.func79,Tryz.ntmps79
 go_wp2_with fail
 have hb0:Below w.heap.size w (w.alloc (.cells #[.int .i64 S.f,.int .i64 S.s,.int .i64 S.a,.slice p1 S.rows.length d1,.slice p2 S.targets.length d2] 27)):=(by repeat (first|(with_reducible first|assumption|exact zBr _ _|refine zBs ?_ (by first|omega|(simp<;>omega)) _|refine zBa ?_ (by first|omega|(simp<;>omega)) _|apply zBd)|assumption))
 have h5:Five (w.alloc (.cells #[.int .i64 S.f,.int .i64 S.s,.int .i64 S.a,.slice p1 S.rows.length d1,.slice p2 S.targets.length d2] 27)) w.heap.size S.f S.s S.a (.slice p1 S.rows.length d1) (.slice p2 S.targets.length d2):=⟨(by simp[zO,zJ,zQ]),(by simp[zO,zJ,zQ]),(by simp[zO,zJ,zQ]),(by simp[zO,zJ,zQ]),(by simp[zO,zJ,zQ])⟩
 have hEA:EdsAt (w.alloc (.cells #[.int .i64 S.f,.int .i64 S.s,.int .i64 S.a,.slice p1 S.rows.length d1,.slice p2 S.targets.length d2] 27)) b5 D:=fun k hk=>⟨zP hb0 (HPD.out k hk).1,zP hb0 (HPD.out k hk).2⟩
 refine (HOV.out _ hEA (HX.out.below hb0)).mono ?_
 rintro e w2 ⟨N,rfl,hIN,hNw,hb2⟩
 replace h5:=h5.below hb2
 have hB:Below w.heap.size w w2:=hb0.trans (hb2.mono hb0.size)
 have hwN:w.heap.size < N:=by simp at hNw;omega
 rw[HXN.out]
 obtain⟨_,_,_,c3,_⟩:=h5
 have HI3:=zN hIN
 have HB:=zN hB
 have hne:¬ (w.heap.size=N):=by omega
 have hg3:=World.grownBy.refl w2 (some N)
 clear hb0 hb2 hEA hNw hIN hB HOV
 go_wp2
 go_loopw [8] (fun i wr=>∃ t:Nat,t≤S.rows.length∧i=.int .i64 t∧Hid (IntsAt wr N 0 ((spread A (tTo (rfM S x) t)).map wrap64))∧w2.grownBy wr (some N)) (fun i _=>S.rows.length-(intOf i).toNat)
 case atStart=>exact⟨0,Nat.zero_le _,rfl,zN (by rw[show spread A (tTo (rfM S x) 0)=A from rfl,HAB.out];exact HI3.out),hg3⟩
 case round=>
  clear hg3 HI3
  obtain⟨t,ht,rfl,HI,hg⟩:=hrel
  have m3:=hg.cell c3 (by simp;exact hne)
  by_cases hlt:t < S.rows.length
  ·have hdk:decide ((t:Int) < (S.rows.length:Int))=true:=zDt (by omega)
   have hbw:Below w.heap.size w wr:=HB.out.grown hg HB.out.size (fun k hk=>by injection hk with hk;omega)
   obtain⟨bR,oR,rfl,hbR,hcR⟩:=HR.out.get (by omega)
   obtain⟨q,cap,g0,gcap,gsh,g1,g2,g3⟩:=hcR t hlt
   replace g0:=zP hbw g0
   replace g1:=zP hbw g1
   replace g2:=zP hbw g2
   replace g3:=zP hbw g3
   have hok1:=HRT.out t hlt
   have hrow:=HOK.out.row (List.getElem_mem hlt)
   have HSuc:Hid (tTo (rfM S x) (t+1)=tTo (rfM S x) t ++ rowT (S.rows[t],valL S.rows[t].sh x)):=zN (by
    rw[tTo_succ (by rw[HRF.out];exact hlt),HRG.out])
   obtain⟨r,hr⟩:∃ r,r=S.rows[t]:=⟨_,rfl⟩
   rw[←hr] at g0 gcap gsh g1 g2 g3 hok1 HSuc hrow
   have HSW:=zN hrow.2.2.1
   have hshl:=hrow.2.2.2.1
   have HG0:=zN gsh
   obtain⟨y,hy⟩:∃ y,y=valL r.sh x:=⟨_,rfl⟩
   rw[←hy] at hok1 HSuc
   have HY:=zN hy
   have HK1:=zN hok1
   have HBW:=zN hbw
   have hrw:Hid (rwv r q cap=.agg #[.slice q r.sh.length cap,.int .i64 r.value,.int .i64 r.weight,.int .i64 r.report]):=zN rfl
   obtain⟨Z,hZ⟩:∃ Z,Z=spread A (tTo (rfM S x) t):=⟨_,rfl⟩
   have HZl:Hid (Z.length=n):=zN (by rw[hZ,spread_len,HAL.out])
   have HNEW:Hid (spread A (tTo (rfM S x) (t+1))=spread Z (rowT (r,y))):=zN (by rw[HSuc.out,spread_append,←hZ])
   rw[←hZ] at HI
   have hNw:N < wr.heap.size:=zM _ _ (HI.out 0 (by rw[List.length_map,HZl.out];omega)).1
   have ht0:(0:Int)≤(t:Int):=by omega
   have htI:(t:Int) < (S.rows.length:Int):=by omega
   have hxl:x.length≤1000000000:=by rw[HXN.out];omega
   have HG:=zN hg
   clear hr hy hcR gsh hok1 hbw hZ HSuc hg hrow
   go_wp2
   refine RY.region RX.fN (fun w'=>w'.cell? ⟨w.heap.size,3,none⟩=some (.slice (some ⟨bR,oR,none⟩) S.rows.length d1)∧w'.cell? ⟨bR,oR+t*4,none⟩=some (.slice q r.sh.length cap)∧w'.cell? ⟨bR,oR+t*4+1,none⟩=some (.int .i64 r.value)∧w'.cell? ⟨bR,oR+t*4+2,none⟩=some (.int .i64 r.weight)∧w'.cell? ⟨bR,oR+t*4+3,none⟩=some (.int .i64 r.report)) (by kernel_rfl) (by kernel_rfl) (⟨m3,g0,g1,g2,g3⟩) (fun OPS HO QR hQR=>?_)
   repeat (refine zeY (fun R hR=>?_);(first|refine zaY (by first|rfl|(rw[HO.out];rfl)) (by simp only[zA,zB,zC,zD];rfl) ?_|refine zbY (by first|rfl|(rw[HO.out];rfl)) rfl (by first|exact .inl rfl|exact .inr rfl) (by simp only[zE,zF,zG,zH];rfl) (by simp only[zA,zB,zC,zD];rfl) ?_|refine zcY (by first|rfl|(rw[HO.out];rfl)) rfl rfl (by simp only[zE,zF,zG,zH];rfl) (by simp only[zA,zB,zC,zD];rfl) ?_|(refine zdY (by first|rfl|(rw[HO.out];rfl)) rfl rfl rfl ?_;apply zEx;apply zEx;refine⟨fun w' hS K hK=>?_,?_,?_⟩;(focus (obtain⟨hS1,hS2,hS3,hS4,hS5⟩:=hS;go_wp2;exact hK _ _ (by simp only[zl,zG,zH];first|exact zf (by omega)|exact zg (by omega)|exact zh (by omega)|exact zi (by omega)|exact zj (by omega)|exact zk (by omega)|exact RX.bneB _|rfl) rfl));(focus (simp only[zA,zB,zC,zD];rfl))));refine hR _ _ ?_;clear hR R)
   refine zeY (fun R hR=>?_)
   refine zgY (by first|rfl|(rw[HO.out];rfl)) rfl (fun K hK=>?_)
   go_wp2_with fail
   rw[←hrw.out]
   rw[←HXN.out]
   refine (rsum_any r q cap x p xc _ (HG0.out.below HBW.out.drew) gcap (by omega) HSW.out (HX.out.below HBW.out.drew) HXB.out hxl).mono ?_
   rintro e w5 ⟨rfl,hb5⟩
   rw[←HY.out]
   rw[hrw.out]
   replace hb5:Below wr.heap.size wr w5:=⟨hb5.os,hb5.tape,hb5.output,hb5.size,hb5.block⟩
   replace m3:=zP hb5 m3
   replace g0:=zP hb5 g0
   replace g1:=zP hb5 g1
   replace g2:=zP hb5 g2
   replace g3:=zP hb5 g3
   have HI5:Hid (IntsAt w5 N 0 (Z.map wrap64)):=zN (HI.out.below hb5)
   have hNw5:N < w5.heap.size:=by have:=hb5.size;omega
   have HBW5:Hid (Below w.heap.size w w5):=zN (HBW.out.trans (hb5.mono HBW.out.size))
   have HG5:Hid (w2.grownBy w5 (some N)):=zN (HG.out.trans (grw_below hb5 _))
   clear hb5 HI hNw HBW HG
   rw[HXN.out]
   refine hK _ _ ⟨.inr (⟨m3,g0,g1,g2,g3⟩),hR _ _ ?_⟩;clear hK K hR R
   repeat (refine zeY (fun R hR=>?_);(first|refine zaY (by first|rfl|(rw[HO.out];rfl)) (by simp only[zA,zB,zC,zD];rfl) ?_|refine zbY (by first|rfl|(rw[HO.out];rfl)) rfl (by first|exact .inl rfl|exact .inr rfl) (by simp only[zE,zF,zG,zH];rfl) (by simp only[zA,zB,zC,zD];rfl) ?_|refine zcY (by first|rfl|(rw[HO.out];rfl)) rfl rfl (by simp only[zE,zF,zG,zH];rfl) (by simp only[zA,zB,zC,zD];rfl) ?_|(refine zdY (by first|rfl|(rw[HO.out];rfl)) rfl rfl rfl ?_;apply zEx;apply zEx;refine⟨fun w' hS K hK=>?_,?_,?_⟩;(focus (obtain⟨hS1,hS2,hS3,hS4,hS5⟩:=hS;go_wp2;exact hK _ _ (by simp only[zl,zG,zH];first|exact zf (by omega)|exact zg (by omega)|exact zh (by omega)|exact zi (by omega)|exact zj (by omega)|exact zk (by omega)|exact RX.bneB _|rfl) rfl));(focus (simp only[zA,zB,zC,zD];rfl))));refine hR _ _ ?_;clear hR R)
   refine zeY (fun R hR=>?_)
   refine zgY (by first|rfl|(rw[HO.out];rfl)) rfl (fun K hK=>?_)
   go_wp2_with fail
   rw[←hrw.out]
   refine (rspread_any r q cap y N n n Z _ HZl.out HI5.out hNw5 (fun w' hg'=>HG0.out.below (HBW5.out.grown hg' HBW5.out.size (fun k hk=>by injection hk with hk;omega))) gcap HK1.out).mono ?_
   rintro e w6 ⟨rfl,hI6,hg6⟩
   have HI6:=zN hI6
   have HG6:Hid (w2.grownBy w6 (some N)):=zN (HG5.out.trans hg6)
   clear hI6 hg6
   refine hK _ _ ⟨(by first|exact .inl rfl|exact .inl trivial|trivial),hR _ _ ?_⟩;clear hK K hR R
   refine RY.wpL_nil (hQR _ _ ?_);clear hQR QR HO OPS
   go_wp2
   go_roundw
   case rel=>exact⟨t+1,by omega,by go_num,by rw[HNEW.out];exact HI6,HG6.out⟩
   case measure=>simp[intOf];omega
  ·have hdk:decide ((t:Int) < (S.rows.length:Int))=false:=zDf (by omega)
   obtain rfl:t=S.rows.length:=by omega
   have HIF:Hid (IntsAt wr N 0 (multL S x)):=zN (by
    have h9:=HI.out
    rw[←HRF.out,tTo_all,←HMU.out,wrap_map (HMB.out.mono (by omega))] at h9
    exact h9)
   have HBF:Hid (Below w.heap.size w wr):=zN (HB.out.grown hg HB.out.size (fun k hk=>by injection hk with hk;omega))
   clear hg
   go_wp2
   go_ret
   exact⟨N,rfl,HIF.out,by omega,HBF.out⟩
theorem rmult_no (S:Sy) (v:Value) (p:Option Addr) (x:List Int) (xc:Nat) (w:World) (hS:SysIn w v S) (hl:SyLen S) (h:sysErr S≠0) :
  Calls Tryz.prog 27 #[v,.slice p x.length xc] w fun e w'=>e=.returned (.tuple #[.slice none 0 0,.int .i64 (sysErr S)])∧Below w.heap.size w w':=by
 have HH:Hid (∀ w2 v2,SysIn w2 v2 S→Calls Tryz.prog 74 #[v2,.slice p x.length xc] w2 fun e w'=>e=.returned (.int .i64 (sysErr S))∧Below w2.heap.size w2 w'):=zN (fun w2 v2 h2=>rvec23_no S v2 p x xc w2 h2 hl h)
 obtain⟨E,hE⟩:∃ E,E=sysErr S:=⟨_,rfl⟩
 rw[←hE] at h HH ⊢
 have hbe:(E != 0)=true:=by rw[bne_iff_ne];exact h
 have HS:=zN hS
 obtain⟨p1,d1,p2,d2,rfl,_⟩:=hS
 clear hE
 go_enter Tryz.func27,Tryz.ntmps27
 go_wp2_with fail
 refine (HH.out _ _ (HS.out.below (by repeat (first|(with_reducible first|assumption|exact zBr _ _|refine zBs ?_ (by first|omega|(simp<;>omega)) _|refine zBa ?_ (by first|omega|(simp<;>omega)) _|apply zBd)|assumption)))).mono ?_
 rintro e w1 ⟨rfl,hb1⟩
 have hB:Below w.heap.size w w1:=Below.trans (by repeat (first|(with_reducible first|assumption|exact zBr _ _|refine zBs ?_ (by first|omega|(simp<;>omega)) _|refine zBa ?_ (by first|omega|(simp<;>omega)) _|apply zBd)|assumption)) (hb1.mono (by simp<;>omega))
 clear hb1
 go_wp2
 go_ret2
 exact⟨rfl,hB⟩
theorem rmult_vec (S:Sy) (v:Value) (p:Option Addr) (x:List Int) (xc:Nat) (w:World) (hS:SysIn w v S) (hok:SyOk S) (hV:VecAt w p x) (hxl:x.length≤1000000000) (hI:I64L x) (h:¬ VecOk S.f S.s S.a x) :
  Calls Tryz.prog 27 #[v,.slice p x.length xc] w fun e w'=>e=.returned (.tuple #[.slice none 0 0,.int .i64 1])∧Below w.heap.size w w':=by
 have HH:Hid (∀ w2 v2,SysIn w2 v2 S→VecAt w2 p x→Calls Tryz.prog 74 #[v2,.slice p x.length xc] w2 fun e w'=>e=.returned (.int .i64 1)∧Below w2.heap.size w2 w'):=zN (fun w2 v2 h2 h3=>by
  have h9:=rvec23_ok S v2 p x xc w2 h2 hok hok.len h3 hxl hI
  rw[vecErr,if_neg h] at h9
  exact h9)
 have HS:=zN hS
 obtain⟨p1,d1,p2,d2,rfl,_⟩:=hS
 go_enter Tryz.func27,Tryz.ntmps27
 go_wp2_with fail
 refine (HH.out _ _ (HS.out.below (by repeat (first|(with_reducible first|assumption|exact zBr _ _|refine zBs ?_ (by first|omega|(simp<;>omega)) _|refine zBa ?_ (by first|omega|(simp<;>omega)) _|apply zBd)|assumption))) (hV.below (by repeat (first|(with_reducible first|assumption|exact zBr _ _|refine zBs ?_ (by first|omega|(simp<;>omega)) _|refine zBa ?_ (by first|omega|(simp<;>omega)) _|apply zBd)|assumption)))).mono ?_
 rintro e w1 ⟨rfl,hb1⟩
 have hB:Below w.heap.size w w1:=Below.trans (by repeat (first|(with_reducible first|assumption|exact zBr _ _|refine zBs ?_ (by first|omega|(simp<;>omega)) _|refine zBa ?_ (by first|omega|(simp<;>omega)) _|apply zBd)|assumption)) (hb1.mono (by simp<;>omega))
 clear hb1
 go_wp2
 go_ret2
 exact⟨rfl,hB⟩
theorem rmult_ok (S:Sy) (v:Value) (p:Option Addr) (x:List Int) (xc:Nat) (w:World) (hS:SysIn w v S) (hok:SyOk S) (hV:VecAt w p x) (hvo:VecOk S.f S.s S.a x) :
  Calls Tryz.prog 27 #[v,.slice p x.length xc] w fun e w'=>∃ N,e=.returned (.tuple #[.slice (some ⟨N,0,none⟩) S.n S.n,.int .i64 0])∧IntsAt w' N 0 (multL S x)∧w.heap.size≤N∧Below w.heap.size w w':=by
 have HS:=zN hS
 have HX:=zN hV
 have hxn:=vecOk_n hok hvo
 have hn5:=hok.nodes.2.2
 have HVE:Hid (∀ w2 v2,SysIn w2 v2 S→VecAt w2 p x→Calls Tryz.prog 74 #[v2,.slice p x.length xc] w2 fun e w'=>e=.returned (.int .i64 0)∧Below w2.heap.size w2 w'):=zN (fun w2 v2 h2 h3=>by
  have h9:=rvec23_ok S v2 p x xc w2 h2 hok hok.len h3 (by omega) (i64_bd hvo.2.2 (by omega))
  rw[vecErr,if_pos hvo] at h9
  exact h9)
 have hfn:((S.f.toNat:Nat):Int)=S.f:=Int.toNat_of_nonneg (by have:=hok.1.1;omega)
 have HED:Hid (∀ w2,Calls Tryz.prog 78 #[.int .i64 S.f] w2 fun e w'=>∃ v,e=.returned (.tuple #[v,.int .i64 0])∧EdRow w' w2.heap.size v (edgesL S.f.toNat)∧Below w2.heap.size w2 w'):=zN (fun w2=>by
  have h9:=redges_any S.f.toNat (by have:=hok.1.1;omega) (by have:=hok.1.2.1;omega) w2
  rw[hfn] at h9;exact h9)
 have HOV:Hid (∀ (pe:Option Addr) (ce b5:Nat) w2 v2,SysIn w2 v2 S→VecAt w2 p x→(0 < (edgesL S.f.toNat).length→pe=some ⟨b5,0,none⟩)→EdsAt w2 b5 (edgesL S.f.toNat)→(edgesL S.f.toNat).length≤ce→Calls Tryz.prog 79 #[.slice pe (edgesL S.f.toNat).length ce,v2,.slice p x.length xc] w2 fun e w'=>∃ N,e=.returned (.slice (some ⟨N,0,none⟩) S.n S.n)∧IntsAt w' N 0 (multL S x)∧w2.heap.size≤N∧Below w2.heap.size w2 w'):=zN (fun pe ce b5 w2 v2 h1 h2 h3 h4 h5=>rover23_ok S v2 p x xc pe ce b5 w2 h1 hok h2 hvo h3 h4 h5)
 obtain⟨D,hD⟩:∃ D,D=edgesL S.f.toNat:=⟨_,rfl⟩
 rw[←hD] at HED HOV
 obtain⟨p1,d1,p2,d2,rfl,_⟩:=hS
 clear hD hok hvo hV hfn hxn hn5
 go_enter Tryz.func27,Tryz.ntmps27
 go_wp2_with fail
 have hb0:Below w.heap.size w (w.alloc (.cells #[.int .i64 S.f,.int .i64 S.s,.int .i64 S.a,.slice p1 S.rows.length d1,.slice p2 S.targets.length d2] 27)):=(by repeat (first|(with_reducible first|assumption|exact zBr _ _|refine zBs ?_ (by first|omega|(simp<;>omega)) _|refine zBa ?_ (by first|omega|(simp<;>omega)) _|apply zBd)|assumption))
 have h5:Five (w.alloc (.cells #[.int .i64 S.f,.int .i64 S.s,.int .i64 S.a,.slice p1 S.rows.length d1,.slice p2 S.targets.length d2] 27)) w.heap.size S.f S.s S.a (.slice p1 S.rows.length d1) (.slice p2 S.targets.length d2):=⟨(by simp[zO,zJ,zQ]),(by simp[zO,zJ,zQ]),(by simp[zO,zJ,zQ]),(by simp[zO,zJ,zQ]),(by simp[zO,zJ,zQ])⟩
 refine (HVE.out _ _ (HS.out.below hb0) (HX.out.below hb0)).mono ?_
 rintro e w1 ⟨rfl,hb1⟩
 have hB:Below w.heap.size w w1:=hb0.trans (hb1.mono hb0.size)
 obtain⟨y0,y1,y2,y3,y4⟩:=h5.below hb1
 clear hb0 hb1 h5
 go_wp2_with fail
 refine (HED.out _).mono ?_
 rintro e w2 ⟨ve,rfl,hrow,hb2⟩
 obtain⟨pe,ce,b5,rfl,hce,hpe,hP⟩:=hrow.form
 replace hB:=hB.trans (hb2.mono hB.size)
 replace y0:=zP hb2 y0
 replace y1:=zP hb2 y1
 replace y2:=zP hb2 y2
 replace y3:=zP hb2 y3
 replace y4:=zP hb2 y4
 have HP:=zN hP
 have HPE:=zN hpe
 clear hb2 hrow hP hpe
 go_wp2_with fail
 refine (HOV.out pe ce b5 w2 _ (HS.out.below hB) (HX.out.below hB) (fun h=>(HPE.out h).1) HP.out hce).mono ?_
 rintro e w3 ⟨N,rfl,hI,hNw,hb3⟩
 have HI:=zN hI
 have hwN:w.heap.size≤N:=by have:=hB.size;omega
 have HB3:=zN (hB.trans (hb3.mono hB.size))
 clear hI hb3 hNw
 go_wp2
 go_ret2
 exact⟨N,rfl,HI.out,hwN,HB3.out⟩
theorem rless23_any (p1 p2:Option Addr) (x y:List Int) (n c1 c2:Nat) (w:World) (hx:x.length=n) (hy:y.length=n) (h1:VecAt w p1 x) (h2:VecAt w p2 y) (hn:n≤1000000000) (bx:Bd 4611686018427387903 x) (byy:Bd 4611686018427387903 y) :
  Calls Tryz.prog 80 #[.slice p1 n c1,.slice p2 n c2] w fun e w'=>∃ v,e=.returned v∧RowV w' w.heap.size v (lessL x y)∧Below w.heap.size w w':=by
 have HX:=zN h1
 have HY:=zN h2
 have HXL:=zN hx
 have HYL:=zN hy
 have HXW:=zN bx
 have HYW:=zN byy
 clear h1 h2 bx byy hx hy
 go_enter Tryz.func80,Tryz.ntmps80
 go_wp2
 go_loopw [5,6] (fun v i wr=>∃ (j:Nat) (T:List Int),j≤n∧i=.int .i64 j∧T.length=j∧Hid (T=lessL (x.take j) (y.take j))∧RowV wr w.heap.size v T∧Below w.heap.size w wr) (fun v i _=>n-(intOf i).toNat)
 case atStart=>exact⟨0,[],by omega,rfl,rfl,zN rfl,RowV.nil _ _,zBr _ _⟩
 case round=>
  obtain⟨_,xs,hj,rfl,rfl,HT,hrow,hB⟩:=hrel
  by_cases hlt:xs.length < n
  ·have hdk:decide ((xs.length:Int) < (n:Int))=true:=zDt (by omega)
   have hltx:xs.length < x.length:=by rw[HXL.out];exact hlt
   have hlty:xs.length < y.length:=by rw[HYL.out];exact hlt
   obtain⟨b1,o1,rfl,hbl,hcell⟩:=HX.out.cell (by omega)
   obtain⟨b2,o2,rfl,hcl,hcell2⟩:=HY.out.cell (by omega)
   have ck:=zP hB (hcell xs.length hltx)
   have dk:=zP hB (hcell2 xs.length hlty)
   have hbz:=HXW.out x[xs.length] (List.getElem_mem _)
   have hby:=HYW.out y[xs.length] (List.getElem_mem _)
   obtain⟨a1,hx⟩:∃ a1,a1=x[xs.length]:=⟨_,rfl⟩
   rw[←hx] at ck hbz
   obtain⟨a2,hu⟩:∃ a2,a2=y[xs.length]:=⟨_,rfl⟩
   rw[←hu] at dk hby
   have hstep:Hid (xs ++ [a1-a2]=lessL (x.take (xs.length+1)) (y.take (xs.length+1))):=zN (by
    rw[List.take_succ_eq_append_getElem hltx,List.take_succ_eq_append_getElem hlty,←hx,←hu]
    have e:=HT.out
    unfold lessL at e ⊢
    rw[List.zipWith_append (by simp;omega),←e];rfl)
   obtain⟨yy,hy⟩:∃ yy,a1-a2=yy:=⟨_,rfl⟩
   rw[hy] at hstep
   clear hx hu hcell hcell2
   obtain⟨p8,c8,rfl,hc8⟩:=own_slice hrow
   have hs1:=hB.size
   have hown:=World.ownsRow.alloc hrow (.cells #[.int .i64 yy] 3)
   clear hrow
   have HB1:=zN hB
   clear hB
   have hxy:-9223372036854775808≤yy∧yy≤9223372036854775807:=by omega
   have hjx0:(0:Int)≤(xs.length:Int):=by omega
   have hjxI:(xs.length:Int) < (n:Int):=by omega
   go_wp2
   refine RY.region RX.fL (fun w'=>w'.cell? ⟨b1,o1+xs.length,none⟩=some (.int .i64 a1)∧w'.cell? ⟨b2,o2+xs.length,none⟩=some (.int .i64 a2)) (by kernel_rfl) (by kernel_rfl) (⟨ck,dk⟩) (fun OPS HO QR hQR=>?_)
   repeat (refine zeY (fun R hR=>?_);(first|refine zaY (by first|rfl|(rw[HO.out];rfl)) (by simp only[zA,zB,zC,zD];rfl) ?_|refine zbY (by first|rfl|(rw[HO.out];rfl)) rfl (by first|exact .inl rfl|exact .inr rfl) (by simp only[zE,zF,zG,zH];rfl) (by simp only[zA,zB,zC,zD];rfl) ?_|refine zcY (by first|rfl|(rw[HO.out];rfl)) rfl rfl (by simp only[zE,zF,zG,zH];rfl) (by simp only[zA,zB,zC,zD];rfl) ?_|(refine zdY (by first|rfl|(rw[HO.out];rfl)) rfl rfl rfl ?_;apply zEx;apply zEx;refine⟨fun w' hS K hK=>?_,?_,?_⟩;(focus (obtain⟨hS1,hS2⟩:=hS;go_wp2;exact hK _ _ (by simp only[zl,zG,zH];first|exact zf (by omega)|exact zg (by omega)|exact zh (by omega)|exact zi (by omega)|exact zj (by omega)|exact zk (by omega)|exact RX.bneB _|rfl) rfl));(focus (simp only[zA,zB,zC,zD];rfl))));refine hR _ _ ?_;clear hR R)
   refine zeY (fun R hR=>?_)
   refine zgY (by first|rfl|(rw[HO.out];rfl)) rfl (fun K hK=>?_)
   go_wp2
   refine⟨.inr (⟨(by (try have hLt:=zM _ _ ck);(try simp only at hLt);(repeat first|rw[zO]|rw[zK _ _ _ _ (by first|(simp<;>omega)|omega)]|rw[zJ,if_neg (by first|(simp<;>omega)|omega)]);first|exact ck|(rw[zJ,if_pos (by first|(simp;done)|omega)];exact ck)),(by (try have hLt:=zM _ _ dk);(try simp only at hLt);(repeat first|rw[zO]|rw[zK _ _ _ _ (by first|(simp<;>omega)|omega)]|rw[zJ,if_neg (by first|(simp<;>omega)|omega)]);first|exact dk|(rw[zJ,if_pos (by first|(simp;done)|omega)];exact dk))⟩),hR _ _ ?_⟩;clear hR R
   repeat (refine zeY (fun R hR=>?_);(first|refine zaY (by first|rfl|(rw[HO.out];rfl)) (by simp only[zA,zB,zC,zD];rfl) ?_|refine zbY (by first|rfl|(rw[HO.out];rfl)) rfl (by first|exact .inl rfl|exact .inr rfl) (by simp only[zE,zF,zG,zH];rfl) (by simp only[zA,zB,zC,zD];rfl) ?_|refine zcY (by first|rfl|(rw[HO.out];rfl)) rfl rfl (by simp only[zE,zF,zG,zH];rfl) (by simp only[zA,zB,zC,zD];rfl) ?_|(refine zdY (by first|rfl|(rw[HO.out];rfl)) rfl rfl rfl ?_;apply zEx;apply zEx;refine⟨fun w' hS K hK=>?_,?_,?_⟩;(focus (obtain⟨hS1,hS2⟩:=hS;go_wp2;exact hK _ _ (by simp only[zl,zG,zH];first|exact zf (by omega)|exact zg (by omega)|exact zh (by omega)|exact zi (by omega)|exact zj (by omega)|exact zk (by omega)|exact RX.bneB _|rfl) rfl));(focus (simp only[zA,zB,zC,zD];rfl))));refine hR _ _ ?_;clear hR R)
   refine zeY (fun R hR=>?_)
   refine zgY (by first|rfl|(rw[HO.out];rfl)) rfl (fun K hK=>?_)
   refine RX.wp_app elInt _ _ rfl w.heap.size _ _ _ (hown.drew) (by simp only[zE,zF,zG,zH]) wr.heap.size _ 1 (by simp only[zE,zF,zG,zH]) (heap_alloc_new _ _) rfl (by simp[Value.oneCell']) (by omega) (by omega) (by simp;omega) (fun v' w2 hown2 hb2 hg2 hat2=>?_)
   have hlow:∀ q,(Value.slice p8 xs.length c8).ownBlock=some q→w.heap.size≤q:=fun q hq=>(World.ownsRow.lt hown q hq).1
   have HB2:Hid (Below w.heap.size w w2):=zN ((HB1.out.alloc (by omega) _).drew.grown hg2 (by simp;omega) hlow)
   have HR2:Hid (RowV w2 w.heap.size v' (xs ++ [yy])):=zN (RowV.snoc hown2)
   have x2:w2.cell? ⟨b1,o1+xs.length,none⟩=some (.int .i64 a1):=hg2.cell (a:=⟨b1,o1+xs.length,none⟩) (by (try have hLt:=zM _ _ ck);(try simp only at hLt);(repeat first|rw[zO]|rw[zK _ _ _ _ (by first|(simp<;>omega)|omega)]|rw[zJ,if_neg (by first|(simp<;>omega)|omega)]);first|exact ck|(rw[zJ,if_pos (by first|(simp;done)|omega)];exact ck)) (fun e=>by have:=hlow b1 e.symm;omega)
   have y2:w2.cell? ⟨b2,o2+xs.length,none⟩=some (.int .i64 a2):=hg2.cell (a:=⟨b2,o2+xs.length,none⟩) (by (try have hLt:=zM _ _ dk);(try simp only at hLt);(repeat first|rw[zO]|rw[zK _ _ _ _ (by first|(simp<;>omega)|omega)]|rw[zJ,if_neg (by first|(simp<;>omega)|omega)]);first|exact dk|(rw[zJ,if_pos (by first|(simp;done)|omega)];exact dk)) (fun e=>by have:=hlow b2 e.symm;omega)
   refine hK _ _ ⟨.inr (⟨x2,y2⟩),?_⟩;clear hK K;refine RY.at_ (by simp only[RX.put_some,RX.put_none,List.set_cons_zero,List.set_cons_succ];rfl) (hR _ _ ?_);clear hR R
   repeat (refine zeY (fun R hR=>?_);(first|refine zaY (by first|rfl|(rw[HO.out];rfl)) (by simp only[zA,zB,zC,zD];rfl) ?_|refine zbY (by first|rfl|(rw[HO.out];rfl)) rfl (by first|exact .inl rfl|exact .inr rfl) (by simp only[zE,zF,zG,zH];rfl) (by simp only[zA,zB,zC,zD];rfl) ?_|refine zcY (by first|rfl|(rw[HO.out];rfl)) rfl rfl (by simp only[zE,zF,zG,zH];rfl) (by simp only[zA,zB,zC,zD];rfl) ?_|(refine zdY (by first|rfl|(rw[HO.out];rfl)) rfl rfl rfl ?_;apply zEx;apply zEx;refine⟨fun w' hS K hK=>?_,?_,?_⟩;(focus (obtain⟨hS1,hS2⟩:=hS;go_wp2;exact hK _ _ (by simp only[zl,zG,zH];first|exact zf (by omega)|exact zg (by omega)|exact zh (by omega)|exact zi (by omega)|exact zj (by omega)|exact zk (by omega)|exact RX.bneB _|rfl) rfl));(focus (simp only[zA,zB,zC,zD];rfl))));refine hR _ _ ?_;clear hR R)
   refine RY.wpL_nil (hQR _ _ ?_);clear hQR QR HO OPS
   go_wp2
   go_roundw
   case rel=>exact⟨xs.length+1,xs ++ [yy],by omega,by go_num,by simp,hstep,HR2.out,HB2.out⟩
   case measure=>simp[intOf];omega
  ·have hdk:decide ((xs.length:Int) < (n:Int))=false:=zDf (by omega)
   have he:xs.length=n:=by omega
   have HE:Hid (xs=lessL x y):=zN (by rw[HT.out,he,List.take_of_length_le (by rw[HXL.out];omega),List.take_of_length_le (by rw[HYL.out];omega)])
   obtain⟨pz,cz,rfl,hcz⟩:=own_slice hrow
   have HROW:=zN hrow
   have HBF:=zN hB
   clear hrow hB HT he
   go_wp2
   go_ret
   exact⟨_,rfl,by rw[←HE.out];exact HROW.out,HBF.out⟩
theorem rresid_no (S:Sy) (v:Value) (p:Option Addr) (x:List Int) (xc:Nat) (w:World) (hS:SysIn w v S) (hl:SyLen S) (h:sysErr S≠0) :
  Calls Tryz.prog 29 #[v,.slice p x.length xc] w fun e w'=>e=.returned (.tuple #[.slice none 0 0,.int .i64 (sysErr S)])∧Below w.heap.size w w':=by
 have HH:Hid (∀ w2 v2,SysIn w2 v2 S→Calls Tryz.prog 27 #[v2,.slice p x.length xc] w2 fun e w'=>e=.returned (.tuple #[.slice none 0 0,.int .i64 (sysErr S)])∧Below w2.heap.size w2 w'):=zN (fun w2 v2 h2=>rmult_no S v2 p x xc w2 h2 hl h)
 obtain⟨E,hE⟩:∃ E,E=sysErr S:=⟨_,rfl⟩
 rw[←hE] at h HH ⊢
 have hbe:(E != 0)=true:=by rw[bne_iff_ne];exact h
 have HS:=zN hS
 obtain⟨p1,d1,p2,d2,rfl,_⟩:=hS
 clear hE
 go_enter Tryz.func29,Tryz.ntmps29
 go_wp2_with fail
 refine (HH.out _ _ (HS.out.below (by repeat (first|(with_reducible first|assumption|exact zBr _ _|refine zBs ?_ (by first|omega|(simp<;>omega)) _|refine zBa ?_ (by first|omega|(simp<;>omega)) _|apply zBd)|assumption)))).mono ?_
 rintro e w1 ⟨rfl,hb1⟩
 have hB:Below w.heap.size w w1:=Below.trans (by repeat (first|(with_reducible first|assumption|exact zBr _ _|refine zBs ?_ (by first|omega|(simp<;>omega)) _|refine zBa ?_ (by first|omega|(simp<;>omega)) _|apply zBd)|assumption)) (hb1.mono (by simp<;>omega))
 clear hb1
 go_wp2
 go_ret2
 exact⟨rfl,hB⟩
theorem rresid_vec (S:Sy) (v:Value) (p:Option Addr) (x:List Int) (xc:Nat) (w:World) (hS:SysIn w v S) (hok:SyOk S) (hV:VecAt w p x) (hxl:x.length≤1000000000) (hI:I64L x) (h:¬ VecOk S.f S.s S.a x) :
  Calls Tryz.prog 29 #[v,.slice p x.length xc] w fun e w'=>e=.returned (.tuple #[.slice none 0 0,.int .i64 1])∧Below w.heap.size w w':=by
 have HH:Hid (∀ w2 v2,SysIn w2 v2 S→VecAt w2 p x→Calls Tryz.prog 27 #[v2,.slice p x.length xc] w2 fun e w'=>e=.returned (.tuple #[.slice none 0 0,.int .i64 1])∧Below w2.heap.size w2 w'):=zN (fun w2 v2 h2 h3=>rmult_vec S v2 p x xc w2 h2 hok h3 hxl hI h)
 have HS:=zN hS
 obtain⟨p1,d1,p2,d2,rfl,_⟩:=hS
 go_enter Tryz.func29,Tryz.ntmps29
 go_wp2_with fail
 refine (HH.out _ _ (HS.out.below (by repeat (first|(with_reducible first|assumption|exact zBr _ _|refine zBs ?_ (by first|omega|(simp<;>omega)) _|refine zBa ?_ (by first|omega|(simp<;>omega)) _|apply zBd)|assumption))) (hV.below (by repeat (first|(with_reducible first|assumption|exact zBr _ _|refine zBs ?_ (by first|omega|(simp<;>omega)) _|refine zBa ?_ (by first|omega|(simp<;>omega)) _|apply zBd)|assumption)))).mono ?_
 rintro e w1 ⟨rfl,hb1⟩
 have hB:Below w.heap.size w w1:=Below.trans (by repeat (first|(with_reducible first|assumption|exact zBr _ _|refine zBs ?_ (by first|omega|(simp<;>omega)) _|refine zBa ?_ (by first|omega|(simp<;>omega)) _|apply zBd)|assumption)) (hb1.mono (by simp<;>omega))
 clear hb1
 go_wp2
 go_ret2
 exact⟨rfl,hB⟩
theorem rresid_ok (S:Sy) (v:Value) (p:Option Addr) (x:List Int) (xc:Nat) (w:World) (hS:SysIn w v S) (hok:SyOk S) (hV:VecAt w p x) (hvo:VecOk S.f S.s S.a x) :
  Calls Tryz.prog 29 #[v,.slice p x.length xc] w fun e w'=>∃ u,e=.returned (.tuple #[u,.int .i64 0])∧RowV w' w.heap.size u (resL S x)∧Below w.heap.size w w':=by
 have HS:=zN hS
 have hn5:=hok.nodes.2.2
 have HMU:Hid (∀ w2 v2,SysIn w2 v2 S→VecAt w2 p x→Calls Tryz.prog 27 #[v2,.slice p x.length xc] w2 fun e w'=>∃ N,e=.returned (.tuple #[.slice (some ⟨N,0,none⟩) S.n S.n,.int .i64 0])∧IntsAt w' N 0 (multL S x)∧w2.heap.size≤N∧Below w2.heap.size w2 w'):=zN (fun w2 v2 h2 h3=>rmult_ok S v2 p x xc w2 h2 hok h3 hvo)
 have HRI:Hid (∀ w2 v2,SysIn w2 v2 S→Calls Tryz.prog 32 #[v2] w2 fun e w'=>∃ N,e=.returned (.tuple #[.slice (some ⟨N,0,none⟩) S.n S.n,.int .i64 0])∧IntsAt w' N 0 (rightL S)∧w2.heap.size≤N∧Below w2.heap.size w2 w'):=zN (fun w2 v2 h2=>rright_ok S v2 w2 h2 hok)
 have HLE:Hid (∀ N M w2,IntsAt w2 N 0 (rightL S)→IntsAt w2 M 0 (multL S x)→Calls Tryz.prog 80 #[.slice (some ⟨N,0,none⟩) S.n S.n,.slice (some ⟨M,0,none⟩) S.n S.n] w2 fun e w'=>∃ v,e=.returned v∧RowV w' w2.heap.size v (resL S x)∧Below w2.heap.size w2 w'):=zN (fun N M w2 h1 h2=>by
  unfold resL
  exact rless23_any _ _ (rightL S) (multL S x) S.n S.n S.n w2 (rightL_len S) (by rw[multL_len,vecOk_n hok hvo]) (vec_of_ints h1) (vec_of_ints h2) (by omega) ((rightL_bd hok).mono (by omega)) ((multL_bd hok hvo).mono (by omega)))
 obtain⟨n,hn⟩:∃ n,n=S.n:=⟨_,rfl⟩
 rw[←hn] at HMU HRI HLE hn5
 obtain⟨p1,d1,p2,d2,rfl,_⟩:=hS
 have HX:=zN hV
 clear hn hok hvo hV
 go_enter Tryz.func29,Tryz.ntmps29
 go_wp2_with fail
 have hb0:Below w.heap.size w (w.alloc (.cells #[.int .i64 S.f,.int .i64 S.s,.int .i64 S.a,.slice p1 S.rows.length d1,.slice p2 S.targets.length d2] 27)):=(by repeat (first|(with_reducible first|assumption|exact zBr _ _|refine zBs ?_ (by first|omega|(simp<;>omega)) _|refine zBa ?_ (by first|omega|(simp<;>omega)) _|apply zBd)|assumption))
 have h5:Five (w.alloc (.cells #[.int .i64 S.f,.int .i64 S.s,.int .i64 S.a,.slice p1 S.rows.length d1,.slice p2 S.targets.length d2] 27)) w.heap.size S.f S.s S.a (.slice p1 S.rows.length d1) (.slice p2 S.targets.length d2):=⟨(by simp[zO,zJ,zQ]),(by simp[zO,zJ,zQ]),(by simp[zO,zJ,zQ]),(by simp[zO,zJ,zQ]),(by simp[zO,zJ,zQ])⟩
 refine (HMU.out _ _ (HS.out.below hb0) (HX.out.below hb0)).mono ?_
 rintro e w1 ⟨M,rfl,hM,_,hb1⟩
 have hB:Below w.heap.size w w1:=hb0.trans (hb1.mono hb0.size)
 obtain⟨y0,y1,y2,y3,y4⟩:=h5.below hb1
 have HM:=zN hM
 clear hb0 hb1 h5 hM
 go_wp2_with fail
 refine (HRI.out _ _ (HS.out.below hB)).mono ?_
 rintro e w2 ⟨R,rfl,hRr,_,hb2⟩
 have HM2:=zN (HM.out.below hb2)
 have HR2:=zN hRr
 replace hB:=hB.trans (hb2.mono hB.size)
 clear hb2 hRr HM
 go_wp2_with fail
 refine (HLE.out _ _ _ HR2.out HM2.out).mono ?_
 rintro e w3 ⟨u,rfl,hrow,hb3⟩
 have HRW:=zN (hrow.mono hB.size)
 have HB3:=zN (hB.trans (hb3.mono hB.size))
 obtain⟨pu,cu,rfl,hcu⟩:=own_slice hrow
 clear hrow hb3
 go_wp2
 go_ret2
 exact⟨_,rfl,HRW.out,HB3.out⟩
theorem rdiag_no (S:Sy) (v:Value) (w:World) (hS:SysIn w v S) (hl:SyLen S) (h:sysErr S≠0) :
  Calls Tryz.prog 34 #[v] w fun e w'=>e=.returned (.tuple #[.slice none 0 0,.int .i64 (sysErr S)])∧Below w.heap.size w w':=by
 have HH:Hid (∀ w2 v2,SysIn w2 v2 S→Calls Tryz.prog 13 #[v2] w2 fun e w'=>e=.returned (.int .i64 (sysErr S))∧Below w2.heap.size w2 w'):=zN (fun w2 v2 h2=>rccheck_any S v2 w2 h2 hl)
 obtain⟨E,hE⟩:∃ E,E=sysErr S:=⟨_,rfl⟩
 rw[←hE] at h HH ⊢
 have hbe:(E != 0)=true:=by rw[bne_iff_ne];exact h
 have HS:=zN hS
 obtain⟨p1,d1,p2,d2,rfl,_⟩:=hS
 clear hE
 go_enter Tryz.func34,Tryz.ntmps34
 go_wp2_with fail
 refine (HH.out _ _ (HS.out.below (by repeat (first|(with_reducible first|assumption|exact zBr _ _|refine zBs ?_ (by first|omega|(simp<;>omega)) _|refine zBa ?_ (by first|omega|(simp<;>omega)) _|apply zBd)|assumption)))).mono ?_
 rintro e w1 ⟨rfl,hb1⟩
 have hB:Below w.heap.size w w1:=Below.trans (by repeat (first|(with_reducible first|assumption|exact zBr _ _|refine zBs ?_ (by first|omega|(simp<;>omega)) _|refine zBa ?_ (by first|omega|(simp<;>omega)) _|apply zBd)|assumption)) (hb1.mono (by simp<;>omega))
 clear hb1
 go_wp2
 go_ret2
 exact⟨rfl,hB⟩
theorem rdiag_ok (S:Sy) (v:Value) (w:World) (hS:SysIn w v S) (hok:SyOk S) :
  Calls Tryz.prog 34 #[v] w fun e w'=>∃ N,e=.returned (.tuple #[.slice (some ⟨N,0,none⟩) S.n S.n,.int .i64 0])∧IntsAt w' N 0 (diagL S)∧w.heap.size≤N∧Below w.heap.size w w':=by
 have hE:sysErr S=0:=syOk_iff.2 hok
 have HS:=zN hS
 have HOK:=zN hok
 obtain⟨p1,d1,p2,d2,rfl,hd1,hd2,hR,hTg⟩:=hS
 have HR:=zN hR
 obtain⟨hn3,hn4,hn5⟩:=hok.nodes
 have hq1:1≤S.f:=hok.1.1
 have hq8:S.f≤8:=hok.1.2.1
 have hfn:((S.f.toNat:Nat):Int)=S.f:=Int.toNat_of_nonneg (by omega)
 have hf1:1≤S.f.toNat:=by omega
 have hf8:S.f.toNat≤8:=by omega
 obtain⟨D,hD⟩:∃ D,D=edgesL S.f.toNat:=⟨_,rfl⟩
 have hDin:=edges_in hf1 hf8
 have hDl:=edges_len (n:=S.f.toNat) hf8
 have hM:((nodesL S.f.toNat).length:Int)=(S.n:Int):=by
  rw[nodes_len hf1 hf8,hn3];push_cast;rw[hfn];omega
 rw[hM] at hDin
 have HE1:Hid (diagE S=spread (List.replicate S.n S.a) (D.flatMap (eT S.s))):=zN (by unfold diagE;rw[hD])
 have HED:Hid (∀ w2,Calls Tryz.prog 78 #[.int .i64 S.f] w2 fun e w'=>∃ v,e=.returned (.tuple #[v,.int .i64 0])∧EdRow w' w2.heap.size v D∧Below w2.heap.size w2 w'):=zN (fun w2=>by
  have h9:=redges_any S.f.toNat hf1 hf8 w2
  rw[hfn] at h9;rw[hD];exact h9)
 rw[←hD] at hDin hDl
 obtain⟨n,hn⟩:∃ n,n=S.n:=⟨_,rfl⟩
 rw[←hn] at hn3 hn4 hn5 hDin HE1 ⊢
 have HN:=zN hn
 have HN3:=zN hn3
 have HDin:=zN hDin
 clear hR hTg hn hn3 hok hM hDin hD hfn hf1 hf8
 have hmk:=run_make_row' (P:=Tryz.prog) 25 3 (.int .i64 0) 8 Tryz.underlying25 (by kernel_rfl) rfl .i64 .i64 n (by omega) (by omega)
 go_enter Tryz.func34,Tryz.ntmps34
 go_wp2_with fail
 refine (rccheck_any S _ _ (HS.out.below (by repeat (first|(with_reducible first|assumption|exact zBr _ _|refine zBs ?_ (by first|omega|(simp<;>omega)) _|refine zBa ?_ (by first|omega|(simp<;>omega)) _|apply zBd)|assumption))) HOK.out.len).mono ?_
 rintro e w1 ⟨rfl,hb1⟩
 rw[hE]
 have hB:Below w.heap.size w w1:=Below.trans (by repeat (first|(with_reducible first|assumption|exact zBr _ _|refine zBs ?_ (by first|omega|(simp<;>omega)) _|refine zBa ?_ (by first|omega|(simp<;>omega)) _|apply zBd)|assumption)) (hb1.mono (by simp<;>omega))
 have c0:w1.cell? ⟨w.heap.size,0,none⟩=some (.int .i64 S.f):=zP hb1 (by simp[zO,zJ,zQ])
 have c1:w1.cell? ⟨w.heap.size,1,none⟩=some (.int .i64 S.s):=zP hb1 (by simp[zO,zJ,zQ])
 have c2:w1.cell? ⟨w.heap.size,2,none⟩=some (.int .i64 S.a):=zP hb1 (by simp[zO,zJ,zQ])
 have c3:w1.cell? ⟨w.heap.size,3,none⟩=some (.slice p1 S.rows.length d1):=zP hb1 (by simp[zO,zJ,zQ])
 have c4:w1.cell? ⟨w.heap.size,4,none⟩=some (.slice p2 S.targets.length d2):=zP hb1 (by simp[zO,zJ,zQ])
 have hszw:w.heap.size < w1.heap.size:=zM _ _ c0
 clear hb1 hE
 go_wp2_with fail
 refine (rnn_any _ hq1 hq8 _).mono ?_
 rintro e w2 ⟨rfl,rfl⟩
 rw[←HN3.out]
 go_wp2_with fail
 obtain⟨N,hN⟩:∃ N,N=w1.heap.size:=⟨_,rfl⟩
 rw[←hN]
 have hI1:IntsAt (w1.alloc (.cells (madeCells #[.int .i64 0] n) 3)) N 0 (List.replicate n 0):=by rw[hN];exact IntsAt.made w1 n
 have hb1a:Below w1.heap.size w1 (w1.alloc (.cells (madeCells #[.int .i64 0] n) 3)):=(zBr _ _).alloc (Nat.le_refl _) _
 refine (HED.out _).mono ?_
 rintro e w2 ⟨ve,rfl,hrow,hb2⟩
 obtain⟨pe,ce,b5,rfl,hce,hpe,hP⟩:=hrow.form
 have hI2:IntsAt w2 N 0 (List.replicate n 0):=hI1.below hb2
 have hb12:Below w1.heap.size w1 w2:=hb1a.trans (hb2.mono hb1a.size)
 have r1:=zP hb12 c1
 have r2:=zP hb12 c2
 have r3:=zP hb12 c3
 have HB2:Hid (Below w.heap.size w w2):=zN (hB.trans (hb12.mono hB.size))
 have hNl:N < w2.heap.size:=zM _ _ (hI2 0 (by rw[List.length_replicate];omega)).1
 have hb5N:0 < D.length→¬ (b5=N)∧b5 < w2.heap.size:=fun h=>by
  obtain⟨_,h2,h3⟩:=hpe h
  simp at h2
  omega
 have hpe0:0 < D.length→pe=some ⟨b5,0,none⟩:=fun h=>(hpe h).1
 have HB5:=zN hb5N
 have HPE:=zN hpe0
 have HPD:=zN hP
 have HI2:=zN hI2
 have hwN:w.heap.size≤N:=by omega
 have hne2:¬ (w.heap.size=N):=by omega
 have hwl2:w.heap.size < w2.heap.size:=by omega
 clear hI1 hb1a hb2 hb12 hB hrow hpe hpe0 hb5N hP hI2 c0 c1 c2 c3 c4 hN hmk hszw HED
 go_wp2
 go_loopw [8] (fun i wr=>∃ k:Nat,k≤n∧i=.int .i64 k∧IntsAt wr N 0 (fillA S.a n k)∧w2.grownBy wr (some N)) (fun i _=>n-(intOf i).toNat)
 case atStart=>exact⟨0,by omega,rfl,by rw[fillA_zero];exact HI2.out,World.grownBy.refl _ _⟩
 case round=>
  obtain⟨k,hk,rfl,hI,hg⟩:=hrel
  by_cases hlt:k < n
  ·have hdk:decide ((k:Int) < (n:Int))=true:=zDt (by omega)
   have m2:=hg.cell r2 (by simp;exact hne2)
   have hfl:=fillA_len S.a (n:=n) (k:=k) (by omega)
   obtain⟨ok1,ok2⟩:=hI k (by omega)
   rw[Nat.zero_add] at ok1 ok2
   obtain⟨u,hu⟩:∃ u,u=(fillA S.a n k)[k]'(by omega):=⟨_,rfl⟩
   rw[←hu] at ok1
   have HY:=zN (fillA_succ (a:=S.a) hlt)
   have HI:=zN hI
   clear hu hI
   go_wp2
   go_roundw
   case rel=>exact⟨k+1,by omega,by go_num,by rw[←HY.out];have:=HI.out.set k S.a;rwa[Nat.zero_add] at this,hg.trans (grownBy_setCell _ _ _ _)⟩
   case measure=>simp[intOf];omega
  ·obtain rfl:k=n:=by omega
   rw[fillA_end] at hI
   obtain⟨o0,ho0⟩:∃ o0,o0=List.replicate k S.a:=⟨_,rfl⟩
   have ho0l:o0.length=k:=by rw[ho0,List.length_replicate]
   have hI0:IntsAt wr N 0 ((spread o0 ((D.take 0).flatMap (eT S.s))).map wrap64):=by
    rw[List.take_zero,List.flatMap_nil,show spread o0 []=o0 from rfl,wrap_map,ho0]
    ·exact hI
    ·rw[ho0];intro y hy;rw[List.eq_of_mem_replicate hy];have:=HOK.out.1;unfold PrOk at this;omega
   rw[←ho0] at HE1
   have HI:=zN hI0
   have HOL:=zN ho0l
   have hdk:decide ((k:Int) < (k:Int))=false:=zDf (by omega)
   clear hI hI0 ho0 ho0l
   go_wp2
   go_loopw [9] (fun i wr=>∃ t:Nat,t≤D.length∧i=.int .i64 t∧Hid (IntsAt wr N 0 ((spread o0 ((D.take t).flatMap (eT S.s))).map wrap64))∧w2.grownBy wr (some N)) (fun i _=>D.length-(intOf i).toNat)
   case atStart=>exact⟨0,by omega,rfl,HI,hg⟩
   case round=>
    clear HI hg hdk
    obtain⟨t,ht,rfl,HI,hg⟩:=hrel
    by_cases hlt:t < D.length
    ·have hdk:decide ((t:Int) < (D.length:Int))=true:=zDt (by omega)
     obtain⟨hb5n,hb5l⟩:=HB5.out (by omega)
     obtain rfl:=HPE.out (by omega)
     have x0:=hg.cell (HPD.out t hlt).1 (by simp;exact hb5n)
     have x1:=hg.cell (HPD.out t hlt).2 (by simp;exact hb5n)
     have m1:=hg.cell r1 (by simp;exact hne2)
     obtain⟨g1,g2,g3,g4⟩:=HDin.out D[t] (List.getElem_mem _)
     have HSucc:=zN (flat_succ (eT S.s) hlt)
     obtain⟨c,hc⟩:∃ c,c=D[t]:=⟨_,rfl⟩
     rw[←hc] at x0 x1 g1 g2 g3 g4 HSucc
     obtain⟨cA,cB⟩:=c
     dsimp only at x0 x1 g1 g2 g3 g4
     obtain⟨ia,rfl⟩:∃ ia:Nat,cA=(ia:Int):=⟨cA.toNat,by omega⟩
     obtain⟨ib,rfl⟩:∃ ib:Nat,cB=(ib:Int):=⟨cB.toNat,by omega⟩
     have hia:ia < k:=by omega
     have hib:ib < k:=by omega
     obtain⟨o,ho⟩:∃ o,o=spread o0 ((D.take t).flatMap (eT S.s)):=⟨_,rfl⟩
     have hol:(o.map wrap64).length=k:=by rw[ho,List.length_map,spread_len,HOL.out]
     have HNEW:Hid (spread o0 ((D.take (t+1)).flatMap (eT S.s))=addT (addT o ((ia:Int),S.s)) ((ib:Int),S.s)):=zN (by
      rw[HSucc.out,spread_append,←ho];rfl)
     rw[←ho] at HI
     obtain⟨z,hz⟩:∃ z,z=o.map wrap64:=⟨_,rfl⟩
     rw[←hz] at hol HI
     have HZ1:Hid (∀ u,u=z[ia]'(by omega)→(addT o ((ia:Int),S.s)).map wrap64=z.set ia (wrap64 (u+S.s))):=zN (fun u hu=>by
      rw[addT_wrap,←hz]
      dsimp only
      rw[Int.toNat_natCast,i64_get (by omega),hu])
     have ht0:(0:Int)≤(t:Int):=by omega
     have htI:(t:Int) < (D.length:Int):=by omega
     obtain⟨k1,k2⟩:=HI.out ia (by omega)
     rw[Nat.zero_add] at k1 k2
     obtain⟨u,hu⟩:∃ u,u=z[ia]'(by omega):=⟨_,rfl⟩
     rw[←hu] at k1
     have hz1:=HZ1.out u hu
     have hI6:IntsAt (wr.setCell ⟨N,ia,none⟩ (.int .i64 (wrap64 (u+S.s)))) N 0 (z.set ia (wrap64 (u+S.s))):=by have:=HI.out.set ia (wrap64 (u+S.s));rwa[Nat.zero_add] at this
     have HI6:=zN hI6
     have HZ2:=zN hz1
     clear hu hz1 hI6 HZ1 HI hc hz HSucc
     go_wp2
     refine RY.region RX.fN (fun w'=>w'.cell? ⟨b5,t*2,none⟩=some (.int .i64 (ia:Int))∧w'.cell? ⟨w.heap.size,1,none⟩=some (.int .i64 S.s)∧w'.cell? ⟨N,ia,none⟩=some (.int .i64 u)) (by kernel_rfl) (by kernel_rfl) (⟨x0,m1,k1⟩) (fun OPS HO QR hQR=>?_)
     repeat (refine zeY (fun R hR=>?_);(first|refine zaY (by first|rfl|(rw[HO.out];rfl)) (by simp only[zA,zB,zC,zD];rfl) ?_|refine zbY (by first|rfl|(rw[HO.out];rfl)) rfl (by first|exact .inl rfl|exact .inr rfl) (by simp only[zE,zF,zG,zH];rfl) (by simp only[zA,zB,zC,zD];rfl) ?_|refine zcY (by first|rfl|(rw[HO.out];rfl)) rfl rfl (by simp only[zE,zF,zG,zH];rfl) (by simp only[zA,zB,zC,zD];rfl) ?_|(refine zdY (by first|rfl|(rw[HO.out];rfl)) rfl rfl rfl ?_;apply zEx;apply zEx;refine⟨fun w' hS K hK=>?_,?_,?_⟩;(focus (obtain⟨hS1,hS2,hS3⟩:=hS;go_wp2;exact hK _ _ (by simp only[zl,zG,zH];first|exact zf (by omega)|exact zg (by omega)|exact zh (by omega)|exact zi (by omega)|exact zj (by omega)|exact zk (by omega)|exact RX.bneB _|rfl) rfl));(focus (simp only[zA,zB,zC,zD];rfl))));refine hR _ _ ?_;clear hR R)
     refine zeY (fun R hR=>?_)
     refine zgY (by first|rfl|(rw[HO.out];rfl)) rfl (fun K hK=>?_)
     go_wp2
     first|refine⟨(by first|exact .inl rfl|exact .inl trivial|trivial),hR _ _ (RY.wpL_nil (hQR _ _ ?_))⟩|refine hR _ _ (RY.wpL_nil (hQR _ _ ?_))|refine hQR _ _ ?_
     (try clear hR);(try clear R);clear hQR QR HO OPS
     refine absW (F:=fun w'=>w'.cell? ⟨b5,t*2+1,none⟩=some (.int .i64 (ib:Int))∧w'.cell? ⟨w.heap.size,1,none⟩=some (.int .i64 S.s)∧IntsAt w' N 0 (z.set ia (wrap64 (u+S.s)))∧w2.grownBy w' (some N)) ⟨?_,?_,?_,?_⟩ ?_
     ·exact (grownBy_setCell _ _ _ _).cell x1 (by simp;exact hb5n)
     ·exact (grownBy_setCell _ _ _ _).cell m1 (by simp;exact hne2)
     ·exact HI6.out
     ·exact grown_drew (hg.trans (grownBy_setCell _ _ _ _))
     clear x0 x1 m1 k1 k2 hg HI6
     rintro W6 ⟨x1,m1,hI7,hg7⟩
     obtain⟨k1,k2⟩:=hI7 ib (by simp;omega)
     rw[Nat.zero_add] at k1 k2
     obtain⟨y,hy⟩:∃ y,y=(z.set ia (wrap64 (u+S.s)))[ib]'(by simp;omega):=⟨_,rfl⟩
     rw[←hy] at k1
     have HI8:Hid (IntsAt (W6.setCell ⟨N,ib,none⟩ (.int .i64 (wrap64 (y+S.s)))) N 0 ((spread o0 ((D.take (t+1)).flatMap (eT S.s))).map wrap64)):=zN (by
      have h9:=hI7.set ib (wrap64 (y+S.s))
      rw[Nat.zero_add] at h9
      rw[HNEW.out,addT_wrap,HZ2.out]
      dsimp only
      rw[Int.toNat_natCast,i64_get (by simp;omega),←hy]
      exact h9)
     clear hy hI7 HNEW HZ2 ho
     go_wp2
     refine RY.region RX.fN (fun w'=>w'.cell? ⟨b5,t*2+1,none⟩=some (.int .i64 (ib:Int))∧w'.cell? ⟨w.heap.size,1,none⟩=some (.int .i64 S.s)∧w'.cell? ⟨N,ib,none⟩=some (.int .i64 y)) (by kernel_rfl) (by kernel_rfl) (⟨x1,m1,k1⟩) (fun OPS HO QR hQR=>?_)
     repeat (refine zeY (fun R hR=>?_);(first|refine zaY (by first|rfl|(rw[HO.out];rfl)) (by simp only[zA,zB,zC,zD];rfl) ?_|refine zbY (by first|rfl|(rw[HO.out];rfl)) rfl (by first|exact .inl rfl|exact .inr rfl) (by simp only[zE,zF,zG,zH];rfl) (by simp only[zA,zB,zC,zD];rfl) ?_|refine zcY (by first|rfl|(rw[HO.out];rfl)) rfl rfl (by simp only[zE,zF,zG,zH];rfl) (by simp only[zA,zB,zC,zD];rfl) ?_|(refine zdY (by first|rfl|(rw[HO.out];rfl)) rfl rfl rfl ?_;apply zEx;apply zEx;refine⟨fun w' hS K hK=>?_,?_,?_⟩;(focus (obtain⟨hS1,hS2,hS3⟩:=hS;go_wp2;exact hK _ _ (by simp only[zl,zG,zH];first|exact zf (by omega)|exact zg (by omega)|exact zh (by omega)|exact zi (by omega)|exact zj (by omega)|exact zk (by omega)|exact RX.bneB _|rfl) rfl));(focus (simp only[zA,zB,zC,zD];rfl))));refine hR _ _ ?_;clear hR R)
     refine zeY (fun R hR=>?_)
     refine zgY (by first|rfl|(rw[HO.out];rfl)) rfl (fun K hK=>?_)
     go_wp2
     first|refine⟨(by first|exact .inl rfl|exact .inl trivial|trivial),hR _ _ (RY.wpL_nil (hQR _ _ ?_))⟩|refine hR _ _ (RY.wpL_nil (hQR _ _ ?_))|refine hQR _ _ ?_
     (try clear hR);(try clear R);clear hQR QR HO OPS
     go_wp2
     go_roundw
     case rel=>exact⟨t+1,by omega,by go_num,HI8,grown_drew (hg7.trans (grownBy_setCell _ _ _ _))⟩
     case measure=>simp[intOf];omega
    ·have hdk:decide ((t:Int) < (D.length:Int))=false:=zDf (by omega)
     obtain rfl:t=D.length:=by omega
     rw[List.take_length,←HE1.out] at HI
     have HOL2:Hid ((diagE S).length=k):=zN (by rw[HE1.out,spread_len,HOL.out])
     have HDD:Hid (diagL S=spread (diagE S) (S.rows.flatMap rowD)):=zN rfl
     obtain⟨oE,hoE⟩:∃ oE,oE=diagE S:=⟨_,rfl⟩
     rw[←hoE] at HI HOL2 HDD
     have HBI:Hid (Bd 1000000000000000 (diagL S)):=zN (diagL_bd HOK.out)
     have hrl:S.rows.length≤200:=HOK.out.2.1
     clear hoE HE1 HOL hdk HI2
     go_wp2
     go_loopw [10] (fun i wr=>∃ t:Nat,t≤S.rows.length∧i=.int .i64 t∧Hid (IntsAt wr N 0 ((spread oE ((S.rows.take t).flatMap rowD)).map wrap64))∧w2.grownBy wr (some N)) (fun i _=>S.rows.length-(intOf i).toNat)
     case atStart=>exact⟨0,by omega,rfl,HI,hg⟩
     case round=>
      clear HI hg
      obtain⟨t,ht,rfl,HI,hg⟩:=hrel
      have hr3:=hg.cell r3 (by simp;exact hne2)
      by_cases hlt:t < S.rows.length
      ·have hdk:decide ((t:Int) < (S.rows.length:Int))=true:=zDt (by omega)
       have hbw:Below w.heap.size w wr:=HB2.out.grown hg HB2.out.size (fun k hk=>by injection hk with hk;omega)
       obtain⟨bR,oR,rfl,hbR,hcR⟩:=HR.out.get (by omega)
       obtain⟨q,cap,g0,gcap,gsh,g1,g2,g3⟩:=hcR t hlt
       replace g0:=zP hbw g0
       replace g1:=zP hbw g1
       replace g2:=zP hbw g2
       replace g3:=zP hbw g3
       have hrow:=HOK.out.row (List.getElem_mem hlt)
       have HSuc:=zN (flat_succ rowD hlt)
       obtain⟨r,hr⟩:∃ r,r=S.rows[t]:=⟨_,rfl⟩
       rw[←hr] at g0 gcap gsh g1 g2 g3 hrow HSuc
       obtain⟨hsh,⟨hw1,hw2⟩,_,hshl,_⟩:=hrow
       rw[←HN.out] at hsh
       have HSH:=zN hsh
       have HG0:=zN gsh
       have ht0:(0:Int)≤(t:Int):=by omega
       have htI:(t:Int) < (S.rows.length:Int):=by omega
       have hbRw:bR < wr.heap.size:=zM _ _ g0
       have hNw:N < wr.heap.size:=zM _ _ (HI.out 0 (by rw[List.length_map,spread_len,HOL2.out];omega)).1
       have hwr:w.heap.size < wr.heap.size:=zM _ _ hr3
       have l1:¬ (N=wr.heap.size):=by omega
       have l2:¬ (bR=wr.heap.size):=by omega
       have l3:¬ (w.heap.size=wr.heap.size):=by omega
       have HBW:=zN hbw
       clear hr hcR gsh hsh hbw
       go_wp2
       refine absW (F:=fun w'=>w'.cell? ⟨wr.heap.size,0,none⟩=some (.slice q r.sh.length cap)∧w'.cell? ⟨wr.heap.size,2,none⟩=some (.int .i64 r.weight)∧IntsAt w' N 0 ((spread oE ((S.rows.take t).flatMap rowD)).map wrap64)∧Below wr.heap.size wr w'∧w2.grownBy w' (some N)) ⟨(by simp[zO,zJ,zQ]),(by simp[zO,zJ,zQ]),HI.out.alloc1 _,(by repeat (first|(with_reducible first|assumption|exact zBr _ _|refine zBs ?_ (by first|omega|(simp<;>omega)) _|refine zBa ?_ (by first|omega|(simp<;>omega)) _|apply zBd)|assumption)),hg.trans (World.grownBy_alloc _ _ _)⟩ ?_
       rintro W7 ⟨m0,m2,hI7,hb7,hg7⟩
       have HI7:=zN hI7
       have HG7:=zN hg7
       have HB7:Hid (Below w.heap.size w W7):=zN (HBW.out.trans (hb7.mono HBW.out.size))
       have l5:¬ (wr.heap.size=N):=by omega
       obtain⟨Rb,hRb⟩:∃ Rb,Rb=wr.heap.size:=⟨_,rfl⟩
       rw[←hRb] at m0 m2 l5 ⊢
       clear hI7 hb7 HI hg g0 g1 g2 g3 hRb hr3
       go_loopw [12] (fun i wx=>∃ j:Nat,j≤r.sh.length∧i=.int .i64 j∧Hid (IntsAt wx N 0 ((spread oE ((S.rows.take t).flatMap rowD ++ (rowD r).take j)).map wrap64))∧W7.grownBy wx (some N)) (fun i _=>r.sh.length-(intOf i).toNat)
       case atStart=>exact⟨0,Nat.zero_le _,rfl,zN (by simpa using HI7.out),⟨rfl,rfl,rfl,Nat.le_refl _,fun _ _ _=>rfl⟩⟩
       case round=>
        clear hg7
        obtain⟨j,hj,rfl,HI,hg⟩:=hrel
        have m0r:=hg.cell m0 (by simp;exact l5)
        by_cases hltj:j < r.sh.length
        ·have hdj:decide ((j:Int) < (r.sh.length:Int))=true:=zDt (by omega)
         have hbw:Below w.heap.size w wr:=HB7.out.grown hg HB7.out.size (fun k hk=>by injection hk with hk;omega)
         obtain⟨b,o,rfl,hbl,hcell⟩:=HG0.out.get (by omega)
         obtain⟨e0,e1⟩:=hcell j hltj
         replace e0:=zP hbw e0
         replace e1:=zP hbw e1
         have m2r:=hg.cell m2 (by simp;exact l5)
         obtain⟨⟨hc1,hc2⟩,hc3,hc4⟩:=HSH.out r.sh[j] (List.getElem_mem _)
         have HTK:Hid ((rowD r).take (j+1)=(rowD r).take j ++ [(r.sh[j].1,r.weight*r.sh[j].2*r.sh[j].2)]):=zN (by
          rw[List.take_succ_eq_append_getElem (by simp[rowD];exact hltj)]
          simp only[rowD,List.getElem_map])
         obtain⟨c,hce⟩:∃ c,c=r.sh[j]:=⟨_,rfl⟩
         rw[←hce] at e0 e1 hc1 hc2 hc3 hc4 HTK
         obtain⟨x0,x1⟩:=c
         dsimp only at e0 e1 hc1 hc2 hc3 hc4 HTK
         obtain⟨ia,rfl⟩:∃ ia:Nat,x0=(ia:Int):=⟨x0.toNat,by omega⟩
         have hia:ia < k:=by omega
         have p1:=fprod_bd (a:=r.weight) (b:=x1) (A:=100) (B:=840) (by omega) hw2 (by omega) (by omega) (by omega)
         obtain⟨v1,hv1⟩:∃ v1,r.weight*x1=v1:=⟨_,rfl⟩
         rw[hv1] at p1 HTK
         have p2:=fprod_bd (a:=x1) (b:=v1) (A:=840) (B:=84000) (by omega) hc4 (by omega) (by omega) (by omega)
         rw[Int.mul_comm x1 v1] at p2
         obtain⟨v2,hv2⟩:∃ v2,v1*x1=v2:=⟨_,rfl⟩
         rw[hv2] at p2 HTK
         obtain⟨oo,ho⟩:∃ oo,oo=spread oE ((S.rows.take t).flatMap rowD ++ (rowD r).take j):=⟨_,rfl⟩
         have hol:(oo.map wrap64).length=k:=by rw[ho,List.length_map,spread_len,HOL2.out]
         have HNEW:Hid (spread oE ((S.rows.take t).flatMap rowD ++ (rowD r).take (j+1))=addT oo ((ia:Int),v2)):=zN (by
          rw[HTK.out,←List.append_assoc,spread_snoc,←ho])
         rw[←ho] at HI
         obtain⟨z,hz⟩:∃ z,z=oo.map wrap64:=⟨_,rfl⟩
         rw[←hz] at hol HI
         have hj0:(0:Int)≤(j:Int):=by omega
         have hjI:(j:Int) < (r.sh.length:Int):=by omega
         obtain⟨k1,k2⟩:=HI.out ia (by omega)
         rw[Nat.zero_add] at k1 k2
         obtain⟨u,hu⟩:∃ u,u=z[ia]'(by omega):=⟨_,rfl⟩
         rw[←hu] at k1
         have hI6:Hid (IntsAt (wr.setCell ⟨N,ia,none⟩ (.int .i64 (wrap64 (u+v2)))) N 0 ((spread oE ((S.rows.take t).flatMap rowD ++ (rowD r).take (j+1))).map wrap64)):=zN (by
          have h9:=HI.out.set ia (wrap64 (u+v2));rw[Nat.zero_add] at h9
          rw[HNEW.out,addT_wrap,←hz]
          dsimp only
          rw[Int.toNat_natCast,i64_get (by omega),←hu]
          exact h9)
         clear hce hcell HTK hbw hz ho hu HI HNEW
         go_wp2
         refine RY.region RX.fN (fun w'=>w'.cell? ⟨Rb,0,none⟩=some (.slice (some ⟨b,o,none⟩) r.sh.length cap)∧w'.cell? ⟨b,o+j*2,none⟩=some (.int .i64 (ia:Int))∧w'.cell? ⟨b,o+j*2+1,none⟩=some (.int .i64 x1)∧w'.cell? ⟨Rb,2,none⟩=some (.int .i64 r.weight)∧w'.cell? ⟨N,ia,none⟩=some (.int .i64 u)) (by kernel_rfl) (by kernel_rfl) (⟨m0r,e0,e1,m2r,k1⟩) (fun OPS HO QR hQR=>?_)
         repeat (refine zeY (fun R hR=>?_);(first|refine zaY (by first|rfl|(rw[HO.out];rfl)) (by simp only[zA,zB,zC,zD];rfl) ?_|refine zbY (by first|rfl|(rw[HO.out];rfl)) rfl (by first|exact .inl rfl|exact .inr rfl) (by simp only[zE,zF,zG,zH];rfl) (by simp only[zA,zB,zC,zD];rfl) ?_|refine zcY (by first|rfl|(rw[HO.out];rfl)) rfl rfl (by simp only[zE,zF,zG,zH];rfl) (by simp only[zA,zB,zC,zD];rfl) ?_|(refine zdY (by first|rfl|(rw[HO.out];rfl)) rfl rfl rfl ?_;apply zEx;apply zEx;refine⟨fun w' hS K hK=>?_,?_,?_⟩;(focus (obtain⟨hS1,hS2,hS3,hS4,hS5⟩:=hS;go_wp2;exact hK _ _ (by simp only[zl,zG,zH];first|exact zf (by omega)|exact zg (by omega)|exact zh (by omega)|exact zi (by omega)|exact zj (by omega)|exact zk (by omega)|exact RX.bneB _|rfl) rfl));(focus (simp only[zA,zB,zC,zD];rfl))));refine hR _ _ ?_;clear hR R)
         refine zeY (fun R hR=>?_)
         refine zgY (by first|rfl|(rw[HO.out];rfl)) rfl (fun K hK=>?_)
         go_wp2
         first|refine⟨(by first|exact .inl rfl|exact .inl trivial|trivial),hR _ _ (RY.wpL_nil (hQR _ _ ?_))⟩|refine hR _ _ (RY.wpL_nil (hQR _ _ ?_))|refine hQR _ _ ?_
         (try clear hR);(try clear R);clear hQR QR HO OPS
         go_wp2
         go_roundw
         case rel=>exact⟨j+1,by omega,by go_num,hI6,grown_drew (hg.trans (grownBy_setCell _ _ _ _))⟩
         case measure=>simp[intOf];omega
        ·have hdj:decide ((j:Int) < (r.sh.length:Int))=false:=zDf (by omega)
         obtain rfl:j=r.sh.length:=by omega
         have HI2:Hid (IntsAt wr N 0 ((spread oE ((S.rows.take (t+1)).flatMap rowD)).map wrap64)):=zN (by
          rw[HSuc.out]
          have e:(rowD r).take r.sh.length=rowD r:=List.take_of_length_le (by simp[rowD])
          rw[←e];exact HI.out)
         have hgo:=HG7.out.trans hg
         clear hg
         go_wp2
         go_roundw
         case rel=>exact⟨t+1,by omega,by go_num,HI2,hgo⟩
         case measure=>simp[intOf];omega
      ·have hdk:decide ((t:Int) < (S.rows.length:Int))=false:=zDf (by omega)
       obtain rfl:t=S.rows.length:=by omega
       rw[List.take_length,←HDD.out,wrap_map (HBI.out.mono (by omega))] at HI
       go_wp2
       go_ret2
       exact⟨N,rfl,HI.out,hwN,HB2.out.grown hg HB2.out.size (fun k hk=>by injection hk with hk;omega)⟩
theorem rcost_no (S:Sy) (v:Value) (p:Option Addr) (x:List Int) (xc:Nat) (w:World) (hS:SysIn w v S) (hl:SyLen S) (h:sysErr S≠0) :
  Calls Tryz.prog 26 #[v,.slice p x.length xc] w fun e w'=>e=.returned (.tuple #[wv 0,.int .i64 (sysErr S)])∧Below w.heap.size w w':=by
 have HH:Hid (∀ w2 v2,SysIn w2 v2 S→Calls Tryz.prog 74 #[v2,.slice p x.length xc] w2 fun e w'=>e=.returned (.int .i64 (sysErr S))∧Below w2.heap.size w2 w'):=zN (fun w2 v2 h2=>rvec23_no S v2 p x xc w2 h2 hl h)
 obtain⟨E,hE⟩:∃ E,E=sysErr S:=⟨_,rfl⟩
 rw[←hE] at h HH ⊢
 have hbe:(E != 0)=true:=by rw[bne_iff_ne];exact h
 have HS:=zN hS
 obtain⟨p1,d1,p2,d2,rfl,_⟩:=hS
 clear hE
 go_enter Tryz.func26,Tryz.ntmps26
 go_wp2_with fail
 refine (HH.out _ _ (HS.out.below (by repeat (first|(with_reducible first|assumption|exact zBr _ _|refine zBs ?_ (by first|omega|(simp<;>omega)) _|refine zBa ?_ (by first|omega|(simp<;>omega)) _|apply zBd)|assumption)))).mono ?_
 rintro e w1 ⟨rfl,hb1⟩
 have hB:Below w.heap.size w w1:=Below.trans (by repeat (first|(with_reducible first|assumption|exact zBr _ _|refine zBs ?_ (by first|omega|(simp<;>omega)) _|refine zBa ?_ (by first|omega|(simp<;>omega)) _|apply zBd)|assumption)) (hb1.mono (by simp<;>omega))
 have r0:w1.cell? ⟨w.heap.size+1,0,none⟩=some (.int .i64 0):=zP hb1 (by simp[zO,zJ,zQ])
 have r1:w1.cell? ⟨w.heap.size+1,1,none⟩=some (.int .u64 0):=zP hb1 (by simp[zO,zJ,zQ])
 have rf:∀ k,w1.frozen? ⟨w.heap.size+1,k,none⟩=false:=fun k=>by
  rw[zFb (hb1.block _ (by simp))];simp
 have rf0:=rf 0
 have rf1:=rf 1
 clear hb1 rf
 go_wp2
 refine bodyPost_ret (v:=.tuple #[.agg #[.int .i64 0,.int .u64 0],.int .i64 E]) ?_ rfl ⟨by rw[wv_zero],(hB.setCell (by simp) _).setCell (by simp) _⟩
 generalize hgg:((w1.setCell ⟨w.heap.size+1,0,none⟩ (.int .i64 0)).setCell ⟨w.heap.size+1,1,none⟩ (.int .u64 0))=W at *
 have q0:W.cell? ⟨w.heap.size+1,0,none⟩=some (.int .i64 0):=by rw[←hgg];exact (zK _ _ _ _ (by simp)).trans (zL _ _ _ (by rw[r0];rfl))
 have q1:W.cell? ⟨w.heap.size+1,1,none⟩=some (.int .u64 0):=by rw[←hgg];exact zL _ _ _ (by rw[zK _ _ _ _ (by simp),r1];rfl)
 simp[results,Tryz.results26,go_sem,q0,q1]
theorem rcost_vec (S:Sy) (v:Value) (p:Option Addr) (x:List Int) (xc:Nat) (w:World) (hS:SysIn w v S) (hok:SyOk S) (hV:VecAt w p x) (hxl:x.length≤1000000000) (hI:I64L x) (h:¬ VecOk S.f S.s S.a x) :
  Calls Tryz.prog 26 #[v,.slice p x.length xc] w fun e w'=>e=.returned (.tuple #[wv 0,.int .i64 1])∧Below w.heap.size w w':=by
 have HH:Hid (∀ w2 v2,SysIn w2 v2 S→VecAt w2 p x→Calls Tryz.prog 74 #[v2,.slice p x.length xc] w2 fun e w'=>e=.returned (.int .i64 1)∧Below w2.heap.size w2 w'):=zN (fun w2 v2 h2 h3=>by
  have h9:=rvec23_ok S v2 p x xc w2 h2 hok hok.len h3 hxl hI
  rw[vecErr,if_neg h] at h9
  exact h9)
 have HS:=zN hS
 obtain⟨p1,d1,p2,d2,rfl,_⟩:=hS
 go_enter Tryz.func26,Tryz.ntmps26
 go_wp2_with fail
 refine (HH.out _ _ (HS.out.below (by repeat (first|(with_reducible first|assumption|exact zBr _ _|refine zBs ?_ (by first|omega|(simp<;>omega)) _|refine zBa ?_ (by first|omega|(simp<;>omega)) _|apply zBd)|assumption))) (hV.below (by repeat (first|(with_reducible first|assumption|exact zBr _ _|refine zBs ?_ (by first|omega|(simp<;>omega)) _|refine zBa ?_ (by first|omega|(simp<;>omega)) _|apply zBd)|assumption)))).mono ?_
 rintro e w1 ⟨rfl,hb1⟩
 have hB:Below w.heap.size w w1:=Below.trans (by repeat (first|(with_reducible first|assumption|exact zBr _ _|refine zBs ?_ (by first|omega|(simp<;>omega)) _|refine zBa ?_ (by first|omega|(simp<;>omega)) _|apply zBd)|assumption)) (hb1.mono (by simp<;>omega))
 have r0:w1.cell? ⟨w.heap.size+1,0,none⟩=some (.int .i64 0):=zP hb1 (by simp[zO,zJ,zQ])
 have r1:w1.cell? ⟨w.heap.size+1,1,none⟩=some (.int .u64 0):=zP hb1 (by simp[zO,zJ,zQ])
 have rf:∀ k,w1.frozen? ⟨w.heap.size+1,k,none⟩=false:=fun k=>by
  rw[zFb (hb1.block _ (by simp))];simp
 have rf0:=rf 0
 have rf1:=rf 1
 clear hb1 rf
 go_wp2
 refine bodyPost_ret (v:=.tuple #[.agg #[.int .i64 0,.int .u64 0],.int .i64 1]) ?_ rfl ⟨by rw[wv_zero],(hB.setCell (by simp) _).setCell (by simp) _⟩
 generalize hgg:((w1.setCell ⟨w.heap.size+1,0,none⟩ (.int .i64 0)).setCell ⟨w.heap.size+1,1,none⟩ (.int .u64 0))=W at *
 have q0:W.cell? ⟨w.heap.size+1,0,none⟩=some (.int .i64 0):=by rw[←hgg];exact (zK _ _ _ _ (by simp)).trans (zL _ _ _ (by rw[r0];rfl))
 have q1:W.cell? ⟨w.heap.size+1,1,none⟩=some (.int .u64 0):=by rw[←hgg];exact zL _ _ _ (by rw[zK _ _ _ _ (by simp),r1];rfl)
 simp[results,Tryz.results26,go_sem,q0,q1]
theorem rcost_ok (S:Sy) (v:Value) (p:Option Addr) (x:List Int) (xc:Nat) (w:World) (hS:SysIn w v S) (hok:SyOk S) (hV:VecAt w p x) (hvo:VecOk S.f S.s S.a x) :
  Calls Tryz.prog 26 #[v,.slice p x.length xc] w fun e w'=>e=.returned (.tuple #[wv (costL S x),.int .i64 0])∧Below w.heap.size w w':=by
 have HS:=zN hS
 have HOK:=zN hok
 obtain⟨p1,d1,p2,d2,rfl,hd1,hd2,hR,hTg⟩:=hS
 have HR:=zN hR
 have HTG:=zN hTg
 have HX:=zN hV
 have hxb:Bd 1048576 x:=hvo.2.2
 have HXB:Hid (Bd 1099511627776 x):=zN (hxb.mono (by omega))
 have HXB0:=zN hxb
 have hxl:x.length≤1000:=by have:=hok.nodes;have:=hvo.2.1;omega
 have hfn:((S.f.toNat:Nat):Int)=S.f:=Int.toNat_of_nonneg (by have:=hok.1.1;omega)
 have HVE:Hid (∀ w2 v2,SysIn w2 v2 S→VecAt w2 p x→Calls Tryz.prog 74 #[v2,.slice p x.length xc] w2 fun e w'=>e=.returned (.int .i64 0)∧Below w2.heap.size w2 w'):=zN (fun w2 v2 h2 h3=>by
  have h9:=rvec23_ok S v2 p x xc w2 h2 hok hok.len h3 (by omega) (i64_bd hvo.2.2 (by omega))
  rw[vecErr,if_pos hvo] at h9
  exact h9)
 have hpv:Hid (prv S.f S.s S.a=.agg #[.int .i64 S.f,.int .i64 S.s,.int .i64 S.a]):=zN rfl
 have HEN:Hid (∀ w',VecAt w' p x→Calls Tryz.prog 75 #[.agg #[.int .i64 S.f,.int .i64 S.s,.int .i64 S.a],.slice p x.length xc] w' fun e w''=>e=.returned (.tuple #[wv (energyL S.s S.a x (edgesL S.f.toNat)),.int .i64 0])∧Below w'.heap.size w' w''):=zN (fun w' h2=>by
  have h:=renergy_ok S.f.toNat S.s S.a p x xc w' h2 (vecOk_nat hvo)
  rw[hfn,hpv.out] at h
  exact h)
 have HTL:=zN hok.2.2.1
 have hrl:S.rows.length≤200:=hok.2.1
 have HC0:Hid (costTo S x 0=energyL S.s S.a x (edgesL S.f.toNat)):=zN rfl
 clear hR hTg hV hxb hfn hok hvo
 go_enter Tryz.func26,Tryz.ntmps26
 go_wp2_with fail
 refine (HVE.out _ _ (HS.out.below (by repeat (first|(with_reducible first|assumption|exact zBr _ _|refine zBs ?_ (by first|omega|(simp<;>omega)) _|refine zBa ?_ (by first|omega|(simp<;>omega)) _|apply zBd)|assumption))) (HX.out.below (by repeat (first|(with_reducible first|assumption|exact zBr _ _|refine zBs ?_ (by first|omega|(simp<;>omega)) _|refine zBa ?_ (by first|omega|(simp<;>omega)) _|apply zBd)|assumption)))).mono ?_
 rintro e w1 ⟨rfl,hb1⟩
 have hB:Below w.heap.size w w1:=Below.trans (by repeat (first|(with_reducible first|assumption|exact zBr _ _|refine zBs ?_ (by first|omega|(simp<;>omega)) _|refine zBa ?_ (by first|omega|(simp<;>omega)) _|apply zBd)|assumption)) (hb1.mono (by simp<;>omega))
 have c0:w1.cell? ⟨w.heap.size,0,none⟩=some (.int .i64 S.f):=zP hb1 (by simp[zO,zJ,zQ])
 have c1:w1.cell? ⟨w.heap.size,1,none⟩=some (.int .i64 S.s):=zP hb1 (by simp[zO,zJ,zQ])
 have c2:w1.cell? ⟨w.heap.size,2,none⟩=some (.int .i64 S.a):=zP hb1 (by simp[zO,zJ,zQ])
 have c3:w1.cell? ⟨w.heap.size,3,none⟩=some (.slice p1 S.rows.length d1):=zP hb1 (by simp[zO,zJ,zQ])
 have c4:w1.cell? ⟨w.heap.size,4,none⟩=some (.slice p2 S.targets.length d2):=zP hb1 (by simp[zO,zJ,zQ])
 have r0:w1.cell? ⟨w.heap.size+1,0,none⟩=some (.int .i64 0):=zP hb1 (by simp[zO,zJ,zQ])
 have r1:w1.cell? ⟨w.heap.size+1,1,none⟩=some (.int .u64 0):=zP hb1 (by simp[zO,zJ,zQ])
 have rf:∀ k,w1.frozen? ⟨w.heap.size+1,k,none⟩=false:=fun k=>by
  rw[zFb (hb1.block _ (by simp))];simp
 clear hb1
 go_wp2_with fail
 refine (HEN.out _ (HX.out.below hB)).mono ?_
 rintro e w2 ⟨rfl,hb2⟩
 rw[←HC0.out]
 obtain⟨C0,D0,q1,q2,hS0⟩:=wv_parts (costTo S x 0)
 clear q1 q2
 rw[hS0]
 have HS0:=zN hS0
 clear hS0
 have m3:=zP hb2 c3
 have m4:=zP hb2 c4
 have e0:=zP hb2 r0
 have e1:=zP hb2 r1
 have hsz:w.heap.size+1 < w2.heap.size:=zM _ _ e0
 have hr0l:w.heap.size+1 < w1.heap.size:=zM _ _ r0
 have ef:∀ k,w2.frozen? ⟨w.heap.size+1,k,none⟩=false:=fun k=>(hb2.frozen (p:=⟨w.heap.size+1,k,none⟩) hr0l).trans (rf k)
 have HB2:=zN (hB.trans (hb2.mono hB.size))
 have hsz2:w.heap.size < w2.heap.size:=by omega
 clear hb2 hB c0 c1 c2 c3 c4 r0 r1 rf HEN HVE HS hr0l
 go_wp2
 refine absW (F:=fun w'=>w'.cell? ⟨w2.heap.size,0,none⟩=some (.int .i64 C0)∧w'.cell? ⟨w2.heap.size,1,none⟩=some (.int .u64 D0)∧w'.frozen? ⟨w2.heap.size,0,none⟩=false∧w'.frozen? ⟨w2.heap.size,1,none⟩=false∧Below w2.heap.size w2 w') ⟨(by simp[zO,zJ,zQ]),(by simp[zO,zJ,zQ]),by simp,by simp,(by repeat (first|(with_reducible first|assumption|exact zBr _ _|refine zBs ?_ (by first|omega|(simp<;>omega)) _|refine zBa ?_ (by first|omega|(simp<;>omega)) _|apply zBd)|assumption))⟩ ?_
 rintro W4 ⟨s0,s1,sf0,sf1,hb4⟩
 obtain⟨Wb,hWb⟩:∃ Wb,Wb=w2.heap.size:=⟨_,rfl⟩
 rw[←hWb] at s0 s1 sf0 sf1 ⊢
 have HB4:=zN hb4
 have hne1:¬ (w.heap.size=Wb):=by omega
 have hne2:¬ (w.heap.size+1=Wb):=by omega
 have HWB:=zN hWb
 clear hWb hb4
 go_loopw [9] (fun i wr=>∃ (k:Nat) (C D:Int),k≤S.rows.length∧i=.int .i64 k∧Hid (wv (costTo S x k)=.agg #[.int .i64 C,.int .u64 D])∧wr.cell? ⟨Wb,0,none⟩=some (.int .i64 C)∧wr.cell? ⟨Wb,1,none⟩=some (.int .u64 D)∧wr.frozen? ⟨Wb,0,none⟩=false∧wr.frozen? ⟨Wb,1,none⟩=false∧W4.grownBy wr (some Wb)) (fun i _=>S.rows.length-(intOf i).toNat)
 case atStart=>exact⟨0,C0,D0,Nat.zero_le _,rfl,HS0,s0,s1,sf0,sf1,⟨rfl,rfl,rfl,Nat.le_refl _,fun _ _ _=>rfl⟩⟩
 case round=>
  clear s0 s1 sf0 sf1
  obtain⟨k,C,D,hk,rfl,HV,s0,s1,sf0,sf1,hgr⟩:=hrel
  have hgr2:w2.grownBy wr (some Wb):=(grw_below HB4.out _).trans hgr
  have m3r:=hgr2.cell m3 (by simp;exact hne1)
  have m4r:=hgr2.cell m4 (by simp;exact hne1)
  have hb2r:Below w2.heap.size w2 wr:=(zBr _ _).grown hgr2 (Nat.le_refl _) (fun k hk=>by injection hk with hk;have:=HWB.out;omega)
  by_cases hlt:k < S.rows.length
  ·have hdk:decide ((k:Int) < (S.rows.length:Int))=true:=zDt (by omega)
   have hltT:k < S.targets.length:=by rw[HTL.out];exact hlt
   have hbw:Below w.heap.size w wr:=HB2.out.trans (hb2r.mono HB2.out.size)
   obtain⟨bR,oR,rfl,hbR,hcR⟩:=(HR.out.below hbw).get (by omega)
   obtain⟨bT,oT,rfl,hbT,hcT⟩:=(HTG.out.below hbw).cell (by omega)
   obtain⟨q,cap,g0,gcap,gsh,g1,g2,g3⟩:=hcR k hlt
   have tk:=hcT k hltT
   have hrow:=HOK.out.row (List.getElem_mem hlt)
   have htg:=HOK.out.target (List.getElem_mem hltT)
   have hvb:=hrow.2.2.1.val_all HXB0.out (by omega)
   have HSTEP:Hid (costTo S x (k+1)=costTo S x k+S.rows[k].weight*(S.targets[k]-valL S.rows[k].sh x)*(S.targets[k]-valL S.rows[k].sh x)):=zN (by
    show costTo S x k+(S.rows.getD k ⟨[],0,0,0⟩).weight*misL S x k*misL S x k=_
    unfold misL
    rw[show S.rows.getD k ⟨[],0,0,0⟩=S.rows[k] by simp[List.getD,List.getElem?_eq_getElem hlt],i64_get hltT])
   obtain⟨r,hr⟩:∃ r,r=S.rows[k]:=⟨_,rfl⟩
   obtain⟨t,ht⟩:∃ t,t=S.targets[k]:=⟨_,rfl⟩
   rw[←hr] at g0 gcap gsh g1 g2 g3 hrow HSTEP hvb
   rw[←ht] at tk htg HSTEP
   obtain⟨m,hm⟩:∃ m,t-valL r.sh x=m:=⟨_,rfl⟩
   rw[hm] at HSTEP
   have hmb:-8589934592≤m∧m≤8589934592:=by omega
   have hpb:=fprod_bd (a:=r.weight) (b:=m) (A:=100) (B:=8589934592) (by have:=hrow.2.1;omega) hrow.2.1.2 hmb.1 hmb.2 (by omega)
   obtain⟨wm,hwm⟩:∃ wm,r.weight*m=wm:=⟨_,rfl⟩
   rw[hwm] at HSTEP hpb
   have HM:=zN hm
   have HSW:=zN hrow.2.2.1
   have hshl:=hrow.2.2.2.1
   have HG:=zN gsh
   have HXr:=zN (HX.out.below hbw)
   have hWl:Wb < wr.heap.size:=zM _ _ s0
   have hkL:(k:Int) < (S.targets.length:Int):=by omega
   have hkR:(k:Int) < (S.rows.length:Int):=by omega
   have hk0:(0:Int)≤(k:Int):=by omega
   have HGR:=zN hgr
   have hrw:Hid (rwv r q cap=.agg #[.slice q r.sh.length cap,.int .i64 r.value,.int .i64 r.weight,.int .i64 r.report]):=zN rfl
   clear hr ht hm gsh hcR hcT hbw hb2r hgr2 hgr hrow hvb htg
   go_wp2
   refine RX.region RX.fN (fun w'=>w'.cell? ⟨w.heap.size,3,none⟩=some (.slice (some ⟨bR,oR,none⟩) S.rows.length d1)∧w'.cell? ⟨w.heap.size,4,none⟩=some (.slice (some ⟨bT,oT,none⟩) S.targets.length d2)∧w'.cell? ⟨bR,oR+k*4,none⟩=some (.slice q r.sh.length cap)∧w'.cell? ⟨bR,oR+k*4+1,none⟩=some (.int .i64 r.value)∧w'.cell? ⟨bR,oR+k*4+2,none⟩=some (.int .i64 r.weight)∧w'.cell? ⟨bR,oR+k*4+3,none⟩=some (.int .i64 r.report)∧w'.cell? ⟨bT,oT+k,none⟩=some (.int .i64 t)) (by kernel_rfl) (by kernel_rfl) (⟨m3r,m4r,g0,g1,g2,g3,tk⟩) (fun OPS HO QR hQR=>?_)
   repeat (refine zeX (fun R hR=>?_);(first|refine zaX (by first|rfl|(rw[HO.out];rfl)) (by simp only[zA,zB,zC,zD];rfl) ?_|refine zbX (by first|rfl|(rw[HO.out];rfl)) rfl (by first|exact .inl rfl|exact .inr rfl) (by simp only[zE,zF,zG,zH];rfl) (by simp only[zA,zB,zC,zD];rfl) ?_|refine zcX (by first|rfl|(rw[HO.out];rfl)) rfl rfl (by simp only[zE,zF,zG,zH];rfl) (by simp only[zA,zB,zC,zD];rfl) ?_|(refine zdX (by first|rfl|(rw[HO.out];rfl)) rfl rfl rfl ?_;apply zEx;apply zEx;refine⟨fun w' hS K hK=>?_,?_,?_⟩;(focus (obtain⟨hS1,hS2,hS3,hS4,hS5,hS6,hS7⟩:=hS;go_wp2;exact hK _ _ (by simp only[zl,zG,zH];first|exact zf (by omega)|exact zg (by omega)|exact zh (by omega)|exact zi (by omega)|exact zj (by omega)|exact zk (by omega)|exact RX.bneB _|rfl) rfl));(focus (simp only[zA,zB,zC,zD];rfl))));refine hR _ _ ?_;clear hR R)
   refine zeX (fun R hR=>?_)
   refine zgX (by first|rfl|(rw[HO.out];rfl)) rfl (fun K hK=>?_)
   go_wp2_with fail
   rw[←hrw.out]
   refine (rmisfit_any r q cap t x p xc _ (HG.out.below (by repeat (first|(with_reducible first|assumption|exact zBr _ _|refine zBs ?_ (by first|omega|(simp<;>omega)) _|refine zBa ?_ (by first|omega|(simp<;>omega)) _|apply zBd)|assumption))) gcap (by omega) HSW.out (HXr.out.below (by repeat (first|(with_reducible first|assumption|exact zBr _ _|refine zBs ?_ (by first|omega|(simp<;>omega)) _|refine zBa ?_ (by first|omega|(simp<;>omega)) _|apply zBd)|assumption))) HXB.out (by omega) (by have:=HM.out;have:=HSW.out.val_all HXB0.out (by omega);omega)).mono ?_
   rintro e w6 ⟨rfl,hb6⟩
   rw[HM.out,hrw.out]
   replace hb7:Below wr.heap.size wr w6:=⟨hb6.os,hb6.tape,hb6.output,hb6.size,hb6.block⟩
   have z3:=zP hb7 m3r
   have z4:=zP hb7 m4r
   have y0:=zP hb7 g0
   have y1:=zP hb7 g1
   have y2:=zP hb7 g2
   have y3:=zP hb7 g3
   have yt:=zP hb7 tk
   have u0:=zP hb7 s0
   have u1:=zP hb7 s1
   have uf0:w6.frozen? ⟨Wb,0,none⟩=false:=(zFb (hb7.block _ hWl)).trans sf0
   have uf1:w6.frozen? ⟨Wb,1,none⟩=false:=(zFb (hb7.block _ hWl)).trans sf1
   have HB7:=zN hb7
   clear hb6 hb7 m3r m4r g0 g1 g2 g3 tk s0 s1 sf0 sf1
   refine hK _ _ ⟨⟨z3,z4,y0,y1,y2,y3,yt⟩,hR _ _ ?_⟩;clear hK K hR R
   repeat (refine zeX (fun R hR=>?_);(first|refine zaX (by first|rfl|(rw[HO.out];rfl)) (by simp only[zA,zB,zC,zD];rfl) ?_|refine zbX (by first|rfl|(rw[HO.out];rfl)) rfl (by first|exact .inl rfl|exact .inr rfl) (by simp only[zE,zF,zG,zH];rfl) (by simp only[zA,zB,zC,zD];rfl) ?_|refine zcX (by first|rfl|(rw[HO.out];rfl)) rfl rfl (by simp only[zE,zF,zG,zH];rfl) (by simp only[zA,zB,zC,zD];rfl) ?_|(refine zdX (by first|rfl|(rw[HO.out];rfl)) rfl rfl rfl ?_;apply zEx;apply zEx;refine⟨fun w' hS K hK=>?_,?_,?_⟩;(focus (obtain⟨hS1,hS2,hS3,hS4,hS5,hS6,hS7⟩:=hS;go_wp2;exact hK _ _ (by simp only[zl,zG,zH];first|exact zf (by omega)|exact zg (by omega)|exact zh (by omega)|exact zi (by omega)|exact zj (by omega)|exact zk (by omega)|exact RX.bneB _|rfl) rfl));(focus (simp only[zA,zB,zC,zD];rfl))));refine hR _ _ ?_;clear hR R)
   refine RX.wpL_nil (hQR _ _ (⟨z3,z4,y0,y1,y2,y3,yt⟩) ?_);clear hQR QR HO OPS
   clear z4 y0 y1 y3 yt
   go_wp2
   refine RY.region RX.fN (fun w'=>w'.cell? ⟨w.heap.size,3,none⟩=some (.slice (some ⟨bR,oR,none⟩) S.rows.length d1)∧w'.cell? ⟨bR,oR+k*4+2,none⟩=some (.int .i64 r.weight)∧w'.cell? ⟨Wb,0,none⟩=some (.int .i64 C)∧w'.cell? ⟨Wb,1,none⟩=some (.int .u64 D)) (by kernel_rfl) (by kernel_rfl) (⟨z3,y2,u0,u1⟩) (fun OPS HO QR hQR=>?_)
   repeat (refine zeY (fun R hR=>?_);(first|refine zaY (by first|rfl|(rw[HO.out];rfl)) (by simp only[zA,zB,zC,zD];rfl) ?_|refine zbY (by first|rfl|(rw[HO.out];rfl)) rfl (by first|exact .inl rfl|exact .inr rfl) (by simp only[zE,zF,zG,zH];rfl) (by simp only[zA,zB,zC,zD];rfl) ?_|refine zcY (by first|rfl|(rw[HO.out];rfl)) rfl rfl (by simp only[zE,zF,zG,zH];rfl) (by simp only[zA,zB,zC,zD];rfl) ?_|(refine zdY (by first|rfl|(rw[HO.out];rfl)) rfl rfl rfl ?_;apply zEx;apply zEx;refine⟨fun w' hS K hK=>?_,?_,?_⟩;(focus (obtain⟨hS1,hS2,hS3,hS4⟩:=hS;go_wp2;exact hK _ _ (by simp only[zl,zG,zH];first|exact zf (by omega)|exact zg (by omega)|exact zh (by omega)|exact zi (by omega)|exact zj (by omega)|exact zk (by omega)|exact RX.bneB _|rfl) rfl));(focus (simp only[zA,zB,zC,zD];rfl))));refine hR _ _ ?_;clear hR R)
   refine zeY (fun R hR=>?_)
   refine zgY (by first|rfl|(rw[HO.out];rfl)) rfl (fun K hK=>?_)
   go_wp2_with fail
   refine (rproduct_any _ _ _ (by omega) (by omega) (by omega) (by omega)).mono ?_
   rintro e w7 ⟨rfl,hb8⟩
   replace hb8:Below w6.heap.size w6 w7:=⟨hb8.os,hb8.tape,hb8.output,hb8.size,hb8.block⟩
   have x3:=zP hb8 z3
   have x2:=zP hb8 y2
   have v0:=zP hb8 u0
   have v1:=zP hb8 u1
   have hWl6:Wb < w6.heap.size:=zM _ _ u0
   have vf0:w7.frozen? ⟨Wb,0,none⟩=false:=(hb8.frozen (p:=⟨Wb,0,none⟩) hWl6).trans uf0
   have vf1:w7.frozen? ⟨Wb,1,none⟩=false:=(hb8.frozen (p:=⟨Wb,1,none⟩) hWl6).trans uf1
   have HB8:Hid (Below wr.heap.size wr w7):=zN (HB7.out.trans (hb8.mono HB7.out.size))
   clear hb8 z3 y2 u0 u1 uf0 uf1
   refine hK _ _ ⟨.inr (⟨x3,x2,v0,v1⟩),hR _ _ ?_⟩;clear hK K hR R
   repeat (refine zeY (fun R hR=>?_);(first|refine zaY (by first|rfl|(rw[HO.out];rfl)) (by simp only[zA,zB,zC,zD];rfl) ?_|refine zbY (by first|rfl|(rw[HO.out];rfl)) rfl (by first|exact .inl rfl|exact .inr rfl) (by simp only[zE,zF,zG,zH];rfl) (by simp only[zA,zB,zC,zD];rfl) ?_|refine zcY (by first|rfl|(rw[HO.out];rfl)) rfl rfl (by simp only[zE,zF,zG,zH];rfl) (by simp only[zA,zB,zC,zD];rfl) ?_|(refine zdY (by first|rfl|(rw[HO.out];rfl)) rfl rfl rfl ?_;apply zEx;apply zEx;refine⟨fun w' hS K hK=>?_,?_,?_⟩;(focus (obtain⟨hS1,hS2,hS3,hS4⟩:=hS;go_wp2;exact hK _ _ (by simp only[zl,zG,zH];first|exact zf (by omega)|exact zg (by omega)|exact zh (by omega)|exact zi (by omega)|exact zj (by omega)|exact zk (by omega)|exact RX.bneB _|rfl) rfl));(focus (simp only[zA,zB,zC,zD];rfl))));refine hR _ _ ?_;clear hR R)
   refine zeY (fun R hR=>?_)
   refine zgY (by first|rfl|(rw[HO.out];rfl)) rfl (fun K hK=>?_)
   go_wp2_with fail
   refine (radd_at _ _ (costTo S x k) (wm*m) HV.out.symm rfl _).mono ?_
   rintro e w8 ⟨rfl,hb9⟩
   rw[←HSTEP.out]
   obtain⟨C1,D1,q1,q2,hS1⟩:=wv_parts (costTo S x (k+1))
   clear q1 q2
   rw[hS1]
   have HS1:=zN hS1
   clear hS1
   replace hb9:Below w7.heap.size w7 w8:=⟨hb9.os,hb9.tape,hb9.output,hb9.size,hb9.block⟩
   have a3:=zP hb9 x3
   have a2:=zP hb9 x2
   have b0:=zP hb9 v0
   have b1:=zP hb9 v1
   have hWl7:Wb < w7.heap.size:=zM _ _ v0
   have xf0:w8.frozen? ⟨Wb,0,none⟩=false:=(hb9.frozen (p:=⟨Wb,0,none⟩) hWl7).trans vf0
   have xf1:w8.frozen? ⟨Wb,1,none⟩=false:=(hb9.frozen (p:=⟨Wb,1,none⟩) hWl7).trans vf1
   have HB9:Hid (Below wr.heap.size wr w8):=zN (HB8.out.trans (hb9.mono HB8.out.size))
   clear hb9 x3 x2 v0 v1 vf0 vf1
   refine hK _ _ ⟨.inr (⟨a3,a2,b0,b1⟩),hR _ _ ?_⟩;clear hK K hR R
   repeat (refine zeY (fun R hR=>?_);(first|refine zaY (by first|rfl|(rw[HO.out];rfl)) (by simp only[zA,zB,zC,zD];rfl) ?_|refine zbY (by first|rfl|(rw[HO.out];rfl)) rfl (by first|exact .inl rfl|exact .inr rfl) (by simp only[zE,zF,zG,zH];rfl) (by simp only[zA,zB,zC,zD];rfl) ?_|refine zcY (by first|rfl|(rw[HO.out];rfl)) rfl rfl (by simp only[zE,zF,zG,zH];rfl) (by simp only[zA,zB,zC,zD];rfl) ?_|(refine zdY (by first|rfl|(rw[HO.out];rfl)) rfl rfl rfl ?_;apply zEx;apply zEx;refine⟨fun w' hS K hK=>?_,?_,?_⟩;(focus (obtain⟨hS1,hS2,hS3,hS4⟩:=hS;go_wp2;exact hK _ _ (by simp only[zl,zG,zH];first|exact zf (by omega)|exact zg (by omega)|exact zh (by omega)|exact zi (by omega)|exact zj (by omega)|exact zk (by omega)|exact RX.bneB _|rfl) rfl));(focus (simp only[zA,zB,zC,zD];rfl))));refine hR _ _ ?_;clear hR R)
   refine zeY (fun R hR=>?_)
   refine zgY (by first|rfl|(rw[HO.out];rfl)) rfl (fun K hK=>?_)
   go_wp2
   first|refine⟨(by first|exact .inl rfl|exact .inl trivial|trivial),hR _ _ (RY.wpL_nil (hQR _ _ ?_))⟩|refine hR _ _ (RY.wpL_nil (hQR _ _ ?_))|refine hQR _ _ ?_
   (try clear hR);(try clear R);clear hQR QR HO OPS
   go_wp2
   go_roundw
   case rel=>
    refine⟨k+1,C1,D1,by omega,by go_num,HS1,?_,?_,by rw[World.frozen?_setCell,World.frozen?_setCell];exact xf0,by rw[World.frozen?_setCell,World.frozen?_setCell];exact xf1,?_⟩
    ·rw[zK _ _ _ _ (by simp)];exact zL _ _ _ (by rw[b0];rfl)
    ·exact zL _ _ _ (by rw[zK _ _ _ _ (by simp),b1];rfl)
    ·exact ((HGR.out.trans (grw_below HB9.out _)).trans (grownBy_setCell _ _ _ _)).trans (grownBy_setCell _ _ _ _)
   case measure=>simp[intOf];omega
  ·have hdk:decide ((k:Int) < (S.rows.length:Int))=false:=zDf (by omega)
   obtain rfl:k=S.rows.length:=by omega
   have f0:=hgr2.cell e0 (by simp;exact hne2)
   have f1:=hgr2.cell e1 (by simp;exact hne2)
   have ff:∀ k,wr.frozen? ⟨w.heap.size+1,k,none⟩=false:=fun k=>(zFb (hgr2.block (w.heap.size+1) hsz (by simp;exact hne2))).trans (ef k)
   have ff0:=ff 0
   have ff1:=ff 1
   have HBw:=zN (HB2.out.trans (hb2r.mono HB2.out.size))
   have HVE:Hid (wv (costL S x)=.agg #[.int .i64 C,.int .u64 D]):=HV
   clear hgr hgr2 hb2r ff HV
   go_wp2
   refine bodyPost_ret (v:=.tuple #[.agg #[.int .i64 C,.int .u64 D],.int .i64 0]) ?_ rfl ⟨by rw[HVE.out],(HBw.out.setCell (by simp) _).setCell (by simp) _⟩
   simp[results,Tryz.results26,go_sem,f0,f1]
theorem ccost_no (S:Sy) (v:Value) (p:Option Addr) (x:List Int) (xc:Nat) (w:World) (hS:SysIn w v S) (hl:SyLen S) (h:sysErr S≠0) :
  Calls Tryz.prog 25 #[v,.slice p x.length xc] w fun e w'=>e=.returned (.tuple #[wv 0,.int .i64 (sysErr S)])∧Below w.heap.size w w':=by
 have HH:Hid (∀ w2 v2,SysIn w2 v2 S→Calls Tryz.prog 12 #[v2] w2 fun e w'=>e=.returned (.int .i64 (sysErr S))∧Below w2.heap.size w2 w'):=zN (fun w2 v2 h2=>ccheck_any S v2 w2 h2 hl)
 obtain⟨E,hE⟩:∃ E,E=sysErr S:=⟨_,rfl⟩
 rw[←hE] at h HH ⊢
 have hbe:(E != 0)=true:=by rw[bne_iff_ne];exact h
 have HS:=zN hS
 obtain⟨p1,d1,p2,d2,rfl,_⟩:=hS
 clear hE
 go_enter Tryz.func25,Tryz.ntmps25
 go_wp2_with fail
 refine (HH.out _ _ (HS.out.below (by repeat (first|(with_reducible first|assumption|exact zBr _ _|refine zBs ?_ (by first|omega|(simp<;>omega)) _|refine zBa ?_ (by first|omega|(simp<;>omega)) _|apply zBd)|assumption)))).mono ?_
 rintro e w1 ⟨rfl,hb1⟩
 have hB:Below w.heap.size w w1:=Below.trans (by repeat (first|(with_reducible first|assumption|exact zBr _ _|refine zBs ?_ (by first|omega|(simp<;>omega)) _|refine zBa ?_ (by first|omega|(simp<;>omega)) _|apply zBd)|assumption)) (hb1.mono (by simp<;>omega))
 have r0:w1.cell? ⟨w.heap.size+1,0,none⟩=some (.int .i64 0):=zP hb1 (by simp[zO,zJ,zQ])
 have r1:w1.cell? ⟨w.heap.size+1,1,none⟩=some (.int .u64 0):=zP hb1 (by simp[zO,zJ,zQ])
 have rf:∀ k,w1.frozen? ⟨w.heap.size+1,k,none⟩=false:=fun k=>by
  rw[zFb (hb1.block _ (by simp))];simp
 have rf0:=rf 0
 have rf1:=rf 1
 clear hb1 rf
 go_wp2
 refine bodyPost_ret (v:=.tuple #[.agg #[.int .i64 0,.int .u64 0],.int .i64 E]) ?_ rfl ⟨by rw[wv_zero],(hB.setCell (by simp) _).setCell (by simp) _⟩
 generalize hgg:((w1.setCell ⟨w.heap.size+1,0,none⟩ (.int .i64 0)).setCell ⟨w.heap.size+1,1,none⟩ (.int .u64 0))=W at *
 have q0:W.cell? ⟨w.heap.size+1,0,none⟩=some (.int .i64 0):=by rw[←hgg];exact (zK _ _ _ _ (by simp)).trans (zL _ _ _ (by rw[r0];rfl))
 have q1:W.cell? ⟨w.heap.size+1,1,none⟩=some (.int .u64 0):=by rw[←hgg];exact zL _ _ _ (by rw[zK _ _ _ _ (by simp),r1];rfl)
 simp[results,Tryz.results25,go_sem,q0,q1]
theorem ccost_vec (S:Sy) (v:Value) (p:Option Addr) (x:List Int) (xc:Nat) (w:World) (hT:HasTab w) (hS:SysIn w v S) (hok:SyOk S) (hV:VecAt w p x) (hcap:x.length≤xc) (hxl:x.length≤1000000000) (h:¬ VecOk S.f S.s S.a x) :
  Calls Tryz.prog 25 #[v,.slice p x.length xc] w fun e w'=>e=.returned (.tuple #[wv 0,.int .i64 1])∧Below w.heap.size w w':=by
 have hE:sysErr S=0:=syOk_iff.2 hok
 have hpv:Hid (prv S.f S.s S.a=.agg #[.int .i64 S.f,.int .i64 S.s,.int .i64 S.a]):=zN rfl
 have HH:Hid (∀ w2,HasTab w2→VecAt w2 p x→Calls Tryz.prog 72 #[.agg #[.int .i64 S.f,.int .i64 S.s,.int .i64 S.a],.slice p x.length xc] w2 fun e w'=>e=.returned (.tuple #[.agg #[.int .i64 0,.int .u64 0],.int .i64 1])∧Below w2.heap.size w2 w'):=zN (fun w2 h1 h2=>by
  have h9:=genergyA S.f S.s S.a _ x w2 ⟨p,xc,rfl,hcap,h2⟩ hxl h1
  rw[hpv.out,vecErr_no h,show energyV S.f S.s S.a x=0 from if_neg h,←wv_zero] at h9
  exact h9)
 have HS:=zN hS
 have HX:=zN hV
 have HTB:=zN hT
 have HL:=zN hok.len
 obtain⟨p1,d1,p2,d2,rfl,_⟩:=hS
 clear hV hT hok
 go_enter Tryz.func25,Tryz.ntmps25
 go_wp2_with fail
 refine (ccheck_any S _ _ (HS.out.below (by repeat (first|(with_reducible first|assumption|exact zBr _ _|refine zBs ?_ (by first|omega|(simp<;>omega)) _|refine zBa ?_ (by first|omega|(simp<;>omega)) _|apply zBd)|assumption))) HL.out).mono ?_
 rintro e w1 ⟨rfl,hb1⟩
 rw[hE]
 have hB:Below w.heap.size w w1:=Below.trans (by repeat (first|(with_reducible first|assumption|exact zBr _ _|refine zBs ?_ (by first|omega|(simp<;>omega)) _|refine zBa ?_ (by first|omega|(simp<;>omega)) _|apply zBd)|assumption)) (hb1.mono (by simp<;>omega))
 have c0:w1.cell? ⟨w.heap.size,0,none⟩=some (.int .i64 S.f):=zP hb1 (by simp[zO,zJ,zQ])
 have c1:w1.cell? ⟨w.heap.size,1,none⟩=some (.int .i64 S.s):=zP hb1 (by simp[zO,zJ,zQ])
 have c2:w1.cell? ⟨w.heap.size,2,none⟩=some (.int .i64 S.a):=zP hb1 (by simp[zO,zJ,zQ])
 have r0:w1.cell? ⟨w.heap.size+1,0,none⟩=some (.int .i64 0):=zP hb1 (by simp[zO,zJ,zQ])
 have r1:w1.cell? ⟨w.heap.size+1,1,none⟩=some (.int .u64 0):=zP hb1 (by simp[zO,zJ,zQ])
 have rf:∀ k,w1.frozen? ⟨w.heap.size+1,k,none⟩=false:=fun k=>by
  rw[zFb (hb1.block _ (by simp))];simp
 clear hb1 hE
 go_wp2_with fail
 refine (HH.out _ (HTB.out.below hB) (HX.out.below hB)).mono ?_
 rintro e w2 ⟨rfl,hb2⟩
 have hr0l:w.heap.size+1 < w1.heap.size:=zM _ _ r0
 have e0:=zP hb2 r0
 have e1:=zP hb2 r1
 have ef:∀ k,w2.frozen? ⟨w.heap.size+1,k,none⟩=false:=fun k=>(hb2.frozen (p:=⟨w.heap.size+1,k,none⟩) hr0l).trans (rf k)
 have rf0:=ef 0
 have rf1:=ef 1
 have hs2:w.heap.size+1 < w2.heap.size:=zM _ _ e0
 have l1:¬ (w.heap.size+1=w2.heap.size):=by omega
 have hB2:=hB.trans (hb2.mono hB.size)
 clear hb2 c0 c1 c2 r0 r1 rf ef hB HH
 go_wp2
 refine bodyPost_ret (v:=.tuple #[.agg #[.int .i64 0,.int .u64 0],.int .i64 1]) ?_ rfl ⟨by rw[wv_zero],((hB2.setCell (by simp) _).setCell (by simp) _).alloc (by simp;omega) _⟩
 have q0:(((w2.setCell ⟨w.heap.size+1,0,none⟩ (.int .i64 0)).setCell ⟨w.heap.size+1,1,none⟩ (.int .u64 0)).alloc (.cells #[.int .i64 0,.int .u64 0] 56)).cell? ⟨w.heap.size+1,0,none⟩=some (.int .i64 0):=by
  rw[zJ,if_neg (by simp<;>omega)];exact (zK _ _ _ _ (by simp)).trans (zL _ _ _ (by rw[e0];rfl))
 have q1:(((w2.setCell ⟨w.heap.size+1,0,none⟩ (.int .i64 0)).setCell ⟨w.heap.size+1,1,none⟩ (.int .u64 0)).alloc (.cells #[.int .i64 0,.int .u64 0] 56)).cell? ⟨w.heap.size+1,1,none⟩=some (.int .u64 0):=by
  rw[zJ,if_neg (by simp<;>omega)];exact zL _ _ _ (by rw[zK _ _ _ _ (by simp),e1];rfl)
 simp[results,Tryz.results25,go_sem,q0,q1]
noncomputable def sxErr (S:Sy) (x:List Int):Int:=if sysErr S=0 then vecErr S.f S.s S.a x else sysErr S
theorem sxErr_ok {S:Sy} {x:List Int} (h:sysErr S=0) (hv:VecOk S.f S.s S.a x):sxErr S x=0:=by unfold sxErr;rw[if_pos h,vecErr_yes hv]
theorem sxErr_vec {S:Sy} {x:List Int} (h:sysErr S=0) (hv:¬ VecOk S.f S.s S.a x):sxErr S x=1:=by unfold sxErr;rw[if_pos h,vecErr_no hv]
theorem sxErr_sys {S:Sy} {x:List Int} (h:¬ sysErr S=0):sxErr S x=sysErr S:=if_neg h
open Classical in
noncomputable def costV (S:Sy) (x:List Int):Int:=if SyOk S∧VecOk S.f S.s S.a x then costL S x else 0
open Classical in
noncomputable def multV (S:Sy) (x:List Int):List Int:=if SyOk S∧VecOk S.f S.s S.a x then multL S x else []
open Classical in
noncomputable def resV (S:Sy) (x:List Int):List Int:=if SyOk S∧VecOk S.f S.s S.a x then resL S x else []
open Classical in
noncomputable def rightV (S:Sy):List Int:=if SyOk S then rightL S else []
open Classical in
noncomputable def diagV (S:Sy):List Int:=if SyOk S then diagL S else []
theorem multL_n {S:Sy} {x:List Int} (h:SyOk S) (hv:VecOk S.f S.s S.a x):(multL S x).length=S.n:=by rw[multL_len,vecOk_n h hv]
theorem resL_n {S:Sy} {x:List Int} (h:SyOk S) (hv:VecOk S.f S.s S.a x):(resL S x).length=S.n:=by
 unfold resL;rw[lessL_len (by rw[rightL_len,multL_n h hv]),rightL_len]
theorem multV_len (S:Sy) (x:List Int):(multV S x).length≤1000:=by
 unfold multV;split
 ·rename_i h;rw[multL_n h.1 h.2];have:=h.1.nodes;omega
 ·simp
theorem resV_len (S:Sy) (x:List Int):(resV S x).length≤1000:=by
 unfold resV;split
 ·rename_i h;rw[resL_n h.1 h.2];have:=h.1.nodes;omega
 ·simp
theorem rightV_len (S:Sy):(rightV S).length≤1000:=by
 unfold rightV;split
 ·rename_i h;rw[rightL_len];have:=h.nodes;omega
 ·simp
theorem diagV_len (S:Sy):(diagV S).length≤1000:=by
 unfold diagV;split
 ·rename_i h;rw[diagL_len];have:=h.nodes;omega
 ·simp
theorem RowV.rdI {w:World} {base:Nat} {v:Value} {zs:List Int} (h:RowV w base v zs):RdI w v zs:=by
 obtain⟨p,cap,b,rfl,hc,hp,hI⟩:=h.form
 exact⟨p,cap,rfl,hc,h.vecAt⟩
theorem ccostA (S:Sy) (v u:Value) (x:List Int) (w:World) (hT:HasTab w) (hS:SysIn w v S) (hl:SyLen S) (hR:RdI w u x) (hxl:x.length≤1000000000) :
  Calls Tryz.prog 25 #[v,u] w fun e w'=>e=.returned (.tuple #[wv (costV S x),.int .i64 (sxErr S x)])∧Below w.heap.size w w':=by
 obtain⟨p,xc,rfl,hcap,hV⟩:=hR
 by_cases h:sysErr S=0
 ·have hok:=syOk_iff.1 h
  by_cases hv:VecOk S.f S.s S.a x
  ·rw[sxErr_ok h hv,show costV S x=costL S x from if_pos ⟨hok,hv⟩]
   exact ccost_ok S v p x xc w hT hS hok hV hv
  ·rw[sxErr_vec h hv,show costV S x=0 from if_neg (fun e=>hv e.2)]
   exact ccost_vec S v p x xc w hT hS hok hV hcap hxl hv
 ·rw[sxErr_sys h,show costV S x=0 from if_neg (fun e=>h (syOk_iff.2 e.1))]
  exact ccost_no S v p x xc w hS hl h
theorem rcostA (S:Sy) (v u:Value) (x:List Int) (w:World) (hS:SysIn w v S) (hl:SyLen S) (hR:RdI w u x) (hxl:x.length≤1000000000) (hI:I64L x) :
  Calls Tryz.prog 26 #[v,u] w fun e w'=>e=.returned (.tuple #[wv (costV S x),.int .i64 (sxErr S x)])∧Below w.heap.size w w':=by
 obtain⟨p,xc,rfl,hcap,hV⟩:=hR
 by_cases h:sysErr S=0
 ·have hok:=syOk_iff.1 h
  by_cases hv:VecOk S.f S.s S.a x
  ·rw[sxErr_ok h hv,show costV S x=costL S x from if_pos ⟨hok,hv⟩]
   exact rcost_ok S v p x xc w hS hok hV hv
  ·rw[sxErr_vec h hv,show costV S x=0 from if_neg (fun e=>hv e.2)]
   exact rcost_vec S v p x xc w hS hok hV hxl hI hv
 ·rw[sxErr_sys h,show costV S x=0 from if_neg (fun e=>h (syOk_iff.2 e.1))]
  exact rcost_no S v p x xc w hS hl h
theorem cmultA (S:Sy) (v u:Value) (x:List Int) (w:World) (hT:HasTab w) (hS:SysIn w v S) (hl:SyLen S) (hR:RdI w u x) (hxl:x.length≤1000000000) :
  Calls Tryz.prog 21 #[v,u] w fun e w'=>∃ z,e=.returned (.tuple #[z,.int .i64 (sxErr S x)])∧RdI w' z (multV S x)∧Below w.heap.size w w':=by
 obtain⟨p,xc,rfl,hcap,hV⟩:=hR
 by_cases h:sysErr S=0
 ·have hok:=syOk_iff.1 h
  by_cases hv:VecOk S.f S.s S.a x
  ·rw[sxErr_ok h hv,show multV S x=multL S x from if_pos ⟨hok,hv⟩]
   refine (cmult_ok S v p x xc w hT hS hok hV hv).mono ?_
   rintro e w' ⟨N,rfl,hI,_,hb⟩
   exact⟨_,rfl,RdI.ints hI (multL_n hok hv),hb⟩
  ·rw[sxErr_vec h hv,show multV S x=[] from if_neg (fun e=>hv e.2)]
   refine (cmult_vec S v p x xc w hS hok hV hxl hv).mono ?_
   rintro e w' ⟨rfl,hb⟩
   exact⟨_,rfl,RdI.nil _,hb⟩
 ·rw[sxErr_sys h,show multV S x=[] from if_neg (fun e=>h (syOk_iff.2 e.1))]
  refine (cmult_no S v p x xc w hS hl h).mono ?_
  rintro e w' ⟨rfl,hb⟩
  exact⟨_,rfl,RdI.nil _,hb⟩
theorem rmultA (S:Sy) (v u:Value) (x:List Int) (w:World) (hS:SysIn w v S) (hl:SyLen S) (hR:RdI w u x) (hxl:x.length≤1000000000) (hI:I64L x) :
  Calls Tryz.prog 27 #[v,u] w fun e w'=>∃ z,e=.returned (.tuple #[z,.int .i64 (sxErr S x)])∧RdI w' z (multV S x)∧Below w.heap.size w w':=by
 obtain⟨p,xc,rfl,hcap,hV⟩:=hR
 by_cases h:sysErr S=0
 ·have hok:=syOk_iff.1 h
  by_cases hv:VecOk S.f S.s S.a x
  ·rw[sxErr_ok h hv,show multV S x=multL S x from if_pos ⟨hok,hv⟩]
   refine (rmult_ok S v p x xc w hS hok hV hv).mono ?_
   rintro e w' ⟨N,rfl,hI,_,hb⟩
   exact⟨_,rfl,RdI.ints hI (multL_n hok hv),hb⟩
  ·rw[sxErr_vec h hv,show multV S x=[] from if_neg (fun e=>hv e.2)]
   refine (rmult_vec S v p x xc w hS hok hV hxl hI hv).mono ?_
   rintro e w' ⟨rfl,hb⟩
   exact⟨_,rfl,RdI.nil _,hb⟩
 ·rw[sxErr_sys h,show multV S x=[] from if_neg (fun e=>h (syOk_iff.2 e.1))]
  refine (rmult_no S v p x xc w hS hl h).mono ?_
  rintro e w' ⟨rfl,hb⟩
  exact⟨_,rfl,RdI.nil _,hb⟩
theorem cresidA (S:Sy) (v u:Value) (x:List Int) (w:World) (hT:HasTab w) (hS:SysIn w v S) (hl:SyLen S) (hR:RdI w u x) (hxl:x.length≤1000000000) :
  Calls Tryz.prog 28 #[v,u] w fun e w'=>∃ z,e=.returned (.tuple #[z,.int .i64 (sxErr S x)])∧RdI w' z (resV S x)∧Below w.heap.size w w':=by
 obtain⟨p,xc,rfl,hcap,hV⟩:=hR
 by_cases h:sysErr S=0
 ·have hok:=syOk_iff.1 h
  by_cases hv:VecOk S.f S.s S.a x
  ·rw[sxErr_ok h hv,show resV S x=resL S x from if_pos ⟨hok,hv⟩]
   refine (cresid_ok S v p x xc w hT hS hok hV hv).mono ?_
   rintro e w' ⟨N,rfl,hI,_,hb⟩
   exact⟨_,rfl,RdI.ints hI (resL_n hok hv),hb⟩
  ·rw[sxErr_vec h hv,show resV S x=[] from if_neg (fun e=>hv e.2)]
   refine (cresid_vec S v p x xc w hS hok hV hxl hv).mono ?_
   rintro e w' ⟨rfl,hb⟩
   exact⟨_,rfl,RdI.nil _,hb⟩
 ·rw[sxErr_sys h,show resV S x=[] from if_neg (fun e=>h (syOk_iff.2 e.1))]
  refine (cresid_no S v p x xc w hS hl h).mono ?_
  rintro e w' ⟨rfl,hb⟩
  exact⟨_,rfl,RdI.nil _,hb⟩
theorem rresidA (S:Sy) (v u:Value) (x:List Int) (w:World) (hS:SysIn w v S) (hl:SyLen S) (hR:RdI w u x) (hxl:x.length≤1000000000) (hI:I64L x) :
  Calls Tryz.prog 29 #[v,u] w fun e w'=>∃ z,e=.returned (.tuple #[z,.int .i64 (sxErr S x)])∧RdI w' z (resV S x)∧Below w.heap.size w w':=by
 obtain⟨p,xc,rfl,hcap,hV⟩:=hR
 by_cases h:sysErr S=0
 ·have hok:=syOk_iff.1 h
  by_cases hv:VecOk S.f S.s S.a x
  ·rw[sxErr_ok h hv,show resV S x=resL S x from if_pos ⟨hok,hv⟩]
   refine (rresid_ok S v p x xc w hS hok hV hv).mono ?_
   rintro e w' ⟨z,rfl,hI,hb⟩
   exact⟨_,rfl,hI.rdI,hb⟩
  ·rw[sxErr_vec h hv,show resV S x=[] from if_neg (fun e=>hv e.2)]
   refine (rresid_vec S v p x xc w hS hok hV hxl hI hv).mono ?_
   rintro e w' ⟨rfl,hb⟩
   exact⟨_,rfl,RdI.nil _,hb⟩
 ·rw[sxErr_sys h,show resV S x=[] from if_neg (fun e=>h (syOk_iff.2 e.1))]
  refine (rresid_no S v p x xc w hS hl h).mono ?_
  rintro e w' ⟨rfl,hb⟩
  exact⟨_,rfl,RdI.nil _,hb⟩
theorem crightA (S:Sy) (v:Value) (w:World) (hS:SysIn w v S) (hl:SyLen S) :
  Calls Tryz.prog 31 #[v] w fun e w'=>∃ z,e=.returned (.tuple #[z,.int .i64 (sysErr S)])∧RdI w' z (rightV S)∧Below w.heap.size w w':=by
 by_cases h:sysErr S=0
 ·have hok:=syOk_iff.1 h
  rw[h,show rightV S=rightL S from if_pos hok]
  refine (cright_ok S v w hS hok).mono ?_
  rintro e w' ⟨N,rfl,hI,_,hb⟩
  exact⟨_,rfl,RdI.ints hI (rightL_len S),hb⟩
 ·rw[show rightV S=[] from if_neg (fun e=>h (syOk_iff.2 e))]
  refine (cright_no S v w hS hl h).mono ?_
  rintro e w' ⟨rfl,hb⟩
  exact⟨_,rfl,RdI.nil _,hb⟩
theorem rrightA (S:Sy) (v:Value) (w:World) (hS:SysIn w v S) (hl:SyLen S) :
  Calls Tryz.prog 32 #[v] w fun e w'=>∃ z,e=.returned (.tuple #[z,.int .i64 (sysErr S)])∧RdI w' z (rightV S)∧Below w.heap.size w w':=by
 by_cases h:sysErr S=0
 ·have hok:=syOk_iff.1 h
  rw[h,show rightV S=rightL S from if_pos hok]
  refine (rright_ok S v w hS hok).mono ?_
  rintro e w' ⟨N,rfl,hI,_,hb⟩
  exact⟨_,rfl,RdI.ints hI (rightL_len S),hb⟩
 ·rw[show rightV S=[] from if_neg (fun e=>h (syOk_iff.2 e))]
  refine (rright_no S v w hS hl h).mono ?_
  rintro e w' ⟨rfl,hb⟩
  exact⟨_,rfl,RdI.nil _,hb⟩
theorem cdiagA (S:Sy) (v:Value) (w:World) (hT:HasTab w) (hS:SysIn w v S) (hl:SyLen S) :
  Calls Tryz.prog 33 #[v] w fun e w'=>∃ z,e=.returned (.tuple #[z,.int .i64 (sysErr S)])∧RdI w' z (diagV S)∧Below w.heap.size w w':=by
 by_cases h:sysErr S=0
 ·have hok:=syOk_iff.1 h
  rw[h,show diagV S=diagL S from if_pos hok]
  refine (cdiag_ok S v w hT hS hok).mono ?_
  rintro e w' ⟨N,rfl,hI,_,hb⟩
  exact⟨_,rfl,RdI.ints hI (diagL_len S),hb⟩
 ·rw[show diagV S=[] from if_neg (fun e=>h (syOk_iff.2 e))]
  refine (cdiag_no S v w hS hl h).mono ?_
  rintro e w' ⟨rfl,hb⟩
  exact⟨_,rfl,RdI.nil _,hb⟩
theorem rdiagA (S:Sy) (v:Value) (w:World) (hS:SysIn w v S) (hl:SyLen S) :
  Calls Tryz.prog 34 #[v] w fun e w'=>∃ z,e=.returned (.tuple #[z,.int .i64 (sysErr S)])∧RdI w' z (diagV S)∧Below w.heap.size w w':=by
 by_cases h:sysErr S=0
 ·have hok:=syOk_iff.1 h
  rw[h,show diagV S=diagL S from if_pos hok]
  refine (rdiag_ok S v w hS hok).mono ?_
  rintro e w' ⟨N,rfl,hI,_,hb⟩
  exact⟨_,rfl,RdI.ints hI (diagL_len S),hb⟩
 ·rw[show diagV S=[] from if_neg (fun e=>h (syOk_iff.2 e))]
  refine (rdiag_no S v w hS hl h).mono ?_
  rintro e w' ⟨rfl,hb⟩
  exact⟨_,rfl,RdI.nil _,hb⟩
end Go.Proofs.YtojkamfabapcoaaGreatDoor
