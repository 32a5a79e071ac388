import Derived.Test.YtojkamfabapcoaaGreatDoorKRC
import Derived.Test.YtojkamfabapcoaaGreatDoorKRVec
import Derived.Test.YtojkamfabapcoaaGreatDoorKTerms
import Derived.Test.YtojkamfabapcoaaGreatDoorKLaw23
import Derived.Test.YtojkamfabapcoaaGreatDoorKRegion
import Derived.Test.YtojkamfabapcoaaGreatDoorApply
import Derived.Test.YtojkamfabapcoaaGreatDoorKLists
import Derived.Test.YtojkamfabapcoaaGreatDoorKCodes
import Derived.Test.YtojkamfabapcoaaGreatDoorKCost
import Derived.Test.YtojkamfabapcoaaGreatDoorKEn
import Derived.Test.YtojkamfabapcoaaGreatDoorKRef
set_option maxRecDepth 100000
set_option maxHeartbeats 8000000
set_option linter.unusedSimpArgs false
set_option linter.unusedVariables false
namespace Go.Proofs.YtojkamfabapcoaaGreatDoor
open Go.RowKit Go.Grid
theorem rvec23_no (S:Sy) (v:Value) (p:Option Addr) (x:List Int) (xc:Nat) (w:World) (hS:SysIn w v S) (hl:SyLen S) (h:sysErr S≠0) :
  Calls Tryz.prog 74 #[v,.slice p x.length xc] w fun e w'=>e=.returned (.int .i64 (sysErr S))∧Below w.heap.size w w':=by
 obtain⟨E,hE⟩:∃ E,E=sysErr S:=⟨_,rfl⟩
 have HE:=zN hE
 rw[←hE] at h ⊢
 have hbe:(E != 0)=true:=by rw[bne_iff_ne];exact h
 have HS:=zN hS
 obtain⟨p1,d1,p2,d2,rfl,_⟩:=hS
 clear hE
 go_enter Tryz.func74,Tryz.ntmps74
 go_wp2_with fail
 refine (rccheck_any S _ _ (HS.out.below (by repeat (first|(with_reducible first|assumption|exact zBr _ _|refine zBs ?_ (by first|omega|simp<;>omega) _|refine zBa ?_ (by first|omega|simp<;>omega) _|apply zBd)|assumption))) hl).mono ?_
 rintro e w1 ⟨rfl,hb1⟩
 rw[←HE.out]
 have hB:Below w.heap.size w w1:=Below.trans (by repeat (first|(with_reducible first|assumption|exact zBr _ _|refine zBs ?_ (by first|omega|simp<;>omega) _|refine zBa ?_ (by first|omega|simp<;>omega) _|apply zBd)|assumption)) (hb1.mono (by simp<;>omega))
 clear hb1
 go_wp2
 go_ret
 exact⟨rfl,hB⟩
theorem rvec23_ok (S:Sy) (v:Value) (p:Option Addr) (x:List Int) (xc:Nat) (w:World) (hS:SysIn w v S) (hok:SyOk S) (hl:SyLen S) (hV:VecAt w p x) (hxl:x.length≤1000000000) (hI:I64L x) :
  Calls Tryz.prog 74 #[v,.slice p x.length xc] w fun e w'=>e=.returned (.int .i64 (vecErr S.f S.s S.a x))∧Below w.heap.size w w':=by
 have hE:=zN (syOk_iff.2 hok)
 have HS:=zN hS
 have hpv:Hid (prv S.f S.s S.a=.agg #[.int .i64 S.f,.int .i64 S.s,.int .i64 S.a]):=zN rfl
 obtain⟨p1,d1,p2,d2,rfl,_⟩:=hS
 go_enter Tryz.func74,Tryz.ntmps74
 go_wp2_with fail
 have hb0:Below w.heap.size w (w.alloc (.cells #[.int .i64 S.f,.int .i64 S.s,.int .i64 S.a,.slice p1 S.rows.length d1,.slice p2 S.targets.length d2] 27)):=(by repeat (first|(with_reducible first|assumption|exact zBr _ _|refine zBs ?_ (by first|omega|simp<;>omega) _|refine zBa ?_ (by first|omega|simp<;>omega) _|apply zBd)|assumption))
 have h5:Five (w.alloc (.cells #[.int .i64 S.f,.int .i64 S.s,.int .i64 S.a,.slice p1 S.rows.length d1,.slice p2 S.targets.length d2] 27)) w.heap.size S.f S.s S.a (.slice p1 S.rows.length d1) (.slice p2 S.targets.length d2):=⟨(by simp[zO,zJ,zQ]),(by simp[zO,zJ,zQ]),(by simp[zO,zJ,zQ]),(by simp[zO,zJ,zQ]),(by simp[zO,zJ,zQ])⟩
 refine (rccheck_any S _ _ (HS.out.below hb0) hl).mono ?_
 rintro e w1 ⟨rfl,hb1⟩
 rw[hE.out]
 obtain⟨y0,y1,y2,y3,y4⟩:=h5.below hb1
 have hB:Below w.heap.size w w1:=hb0.trans (hb1.mono hb0.size)
 have hV1:=hV.below hB
 clear hb1 hb0 h5 hV
 go_wp2_with fail
 have hr:=rvector_any S.f S.s S.a p x xc w1 hV1 hxl hI
 rw[hpv.out] at hr
 refine hr.mono ?_
 rintro e w2 ⟨rfl,hb2⟩
 have hB2:=hB.trans (hb2.mono hB.size)
 go_wp2
 go_ret
 exact⟨rfl,hB2⟩
theorem IntsAt.below {w w':World} {b o:Nat} {zs:List Int} (h:IntsAt w b o zs) (hb:Below w.heap.size w w'):IntsAt w' b o zs:=fun j hj=>
 h.block (hb.block b (zM _ _ (h j hj).1)) j hj
theorem rspread_any (r:Rw) (q:Option Addr) (cap:Nat) (y:Int) (b n oc:Nat) (Z:List Int) (w:World) (hn:Z.length=n) (hI:IntsAt w b 0 (Z.map wrap64)) (hb:b < w.heap.size) (hS:∀ w',w.grownBy w' (some b)→ShIn w' q r.sh) (hc:r.sh.length≤cap) (hok:TermOk n (r,y)) :
  Calls Tryz.prog 82 #[.slice (some ⟨b,0,none⟩) n oc,rwv r q cap,.int .i64 y] w fun e w'=>e=.returned (.tuple #[])∧IntsAt w' b 0 ((spread Z (rowT (r,y))).map wrap64)∧w.grownBy w' (some b):=by
 have hrv:rwv r q cap=.agg #[.slice q r.sh.length cap,.int .i64 r.value,.int .i64 r.weight,.int .i64 r.report]:=rfl
 rw[hrv]
 clear hrv
 have HS:=zN hS
 have HOK:=zN hok
 clear hS hok
 go_enter Tryz.func82,Tryz.ntmps82
 go_wp2
 obtain⟨Rb,hRb⟩:∃ Rb,Rb=w.heap.size:=⟨_,rfl⟩
 have hRl:¬ (Rb=b):=by omega
 refine absW (F:=fun w'=>w'.cell? ⟨Rb,0,none⟩=some (.slice q r.sh.length cap)∧w'.cell? ⟨Rb,2,none⟩=some (.int .i64 r.weight)∧IntsAt w' b 0 (Z.map wrap64)∧w.grownBy w' (some b)) (by rw[hRb];exact⟨(by simp[zO,zJ,zQ]),(by simp[zO,zJ,zQ]),hI.alloc1 _,World.grownBy_alloc _ _ _⟩) ?_
 rintro W1 ⟨c0,c2,hI1,hg1⟩
 rw[←hRb]
 have HI1:=zN hI1
 have HG1:=zN hg1
 have HNL:=zN hn
 have hgr:=World.grownBy.refl W1 (some b)
 obtain⟨hw1,hw2⟩:=HOK.out.2.1
 obtain⟨hy1,hy2⟩:=HOK.out.2.2.1
 have hshl:=HOK.out.2.2.2
 dsimp only at hw1 hw2 hy1 hy2 hshl
 have HSH:=zN HOK.out.1
 clear hI hI1 hRb hn HOK
 go_loopw [6] (fun i wr=>∃ j:Nat,j≤r.sh.length∧i=.int .i64 j∧Hid (IntsAt wr b 0 ((spread Z ((rowT (r,y)).take j)).map wrap64))∧W1.grownBy wr (some b)) (fun i _=>r.sh.length-(intOf i).toNat)
 case atStart=>exact⟨0,Nat.zero_le _,rfl,zN (by simpa[spread] using HI1.out),hgr⟩
 case round=>
  clear hgr
  obtain⟨j,hj,rfl,HI,hg⟩:=hrel
  have c0r:=hg.cell c0 (by simp;exact hRl)
  by_cases hltj:j < r.sh.length
  ·have hdj:decide ((j:Int) < (r.sh.length:Int))=true:=zDt (by omega)
   have c2r:=hg.cell c2 (by simp;exact hRl)
   obtain⟨bs,o,rfl,hbl,hcell⟩:=(HS.out wr (HG1.out.trans hg)).get (by omega)
   obtain⟨e0,e1⟩:=hcell j hltj
   obtain⟨⟨hc1,hc2⟩,hc3,hc4⟩:=HSH.out r.sh[j] (List.getElem_mem _)
   have HTK:Hid ((rowT (r,y)).take (j+1)=(rowT (r,y)).take j ++ [(r.sh[j].1,r.weight*r.sh[j].2*y)]):=zN (by
    rw[List.take_succ_eq_append_getElem (by simp[rowT];exact hltj)]
    simp only[rowT,List.getElem_map]
    rw[show r.sh[j].2*(r.weight*y)=r.weight*r.sh[j].2*y by rw[←Int.mul_assoc,Int.mul_comm r.sh[j].2 r.weight]])
   obtain⟨c,hce⟩:∃ c,c=r.sh[j]:=⟨_,rfl⟩
   rw[←hce] at e0 e1 hc1 hc2 hc3 hc4 HTK
   obtain⟨x0,x1⟩:=c
   dsimp only at e0 e1 hc1 hc2 hc3 hc4 HTK
   obtain⟨ia,rfl⟩:∃ ia:Nat,x0=(ia:Int):=⟨x0.toNat,by omega⟩
   have hia:ia < n:=by omega
   have p1:=fprod_bd (a:=r.weight) (b:=x1) (A:=100) (B:=840) (by omega) hw2 (by omega) (by omega) (by omega)
   obtain⟨v1,hv1⟩:∃ v1,r.weight*x1=v1:=⟨_,rfl⟩
   have p0:0≤v1:=by rw[←hv1];exact Int.mul_nonneg (by omega) (by omega)
   rw[hv1] at p1 HTK
   have p2:=fprod_bd (a:=v1) (b:=y) (A:=84000) (B:=8589934592) p0 (by omega) (by omega) (by omega) (by omega)
   obtain⟨v2,hv2⟩:∃ v2,v1*y=v2:=⟨_,rfl⟩
   rw[hv2] at p2 HTK
   obtain⟨oo,ho⟩:∃ oo,oo=spread Z ((rowT (r,y)).take j):=⟨_,rfl⟩
   have hol:(oo.map wrap64).length=n:=by rw[ho,List.length_map,spread_len,HNL.out]
   have HNEW:Hid (spread Z ((rowT (r,y)).take (j+1))=addT oo ((ia:Int),v2)):=zN (by
    rw[HTK.out,spread_snoc,←ho])
   rw[←ho] at HI
   obtain⟨z,hz⟩:∃ z,z=oo.map wrap64:=⟨_,rfl⟩
   rw[←hz] at hol HI
   obtain⟨k1,k2⟩:=HI.out ia (by omega)
   rw[Nat.zero_add] at k1 k2
   obtain⟨u,hu⟩:∃ u,u=z[ia]'(by omega):=⟨_,rfl⟩
   rw[←hu] at k1
   have hI6:Hid (IntsAt (wr.setCell ⟨b,ia,none⟩ (.int .i64 (wrap64 (u+v2)))) b 0 ((spread Z ((rowT (r,y)).take (j+1))).map wrap64)):=zN (by
    have h9:=HI.out.set ia (wrap64 (u+v2));rw[Nat.zero_add] at h9
    rw[HNEW.out,addT_wrap,←hz]
    dsimp only
    rw[Int.toNat_natCast,i64_get (by omega),←hu]
    exact h9)
   have hj0:(0:Int)≤(j:Int):=by omega
   have hjI:(j:Int) < (r.sh.length:Int):=by omega
   have hia0:(0:Int)≤(ia:Int):=by omega
   have hiaI:(ia:Int) < (n:Int):=by omega
   clear hce hcell HTK hz ho hu HI HNEW HSH HS
   go_wp2
   refine RY.region RX.fN (fun w'=>w'.cell? ⟨Rb,0,none⟩=some (.slice (some ⟨bs,o,none⟩) r.sh.length cap)∧w'.cell? ⟨Rb,2,none⟩=some (.int .i64 r.weight)∧w'.cell? ⟨bs,o+j*2,none⟩=some (.int .i64 (ia:Int))∧w'.cell? ⟨bs,o+j*2+1,none⟩=some (.int .i64 x1)∧w'.cell? ⟨b,ia,none⟩=some (.int .i64 u)) (by kernel_rfl) (by kernel_rfl) (⟨c0r,c2r,e0,e1,k1⟩) (fun OPS HO QR hQR=>?_)
   repeat (refine zeY (fun R hR=>?_);(first|refine zbY rfl rfl (by first|exact .inl rfl|exact .inr rfl) (by simp only[zE,zF,zG,zH];rfl) (by simp only[zA,zB,zC,zD];rfl) ?_|refine zcY rfl rfl rfl (by simp only[zE,zF,zG,zH];rfl) (by simp only[zA,zB,zC,zD];rfl) ?_|(refine zdY rfl rfl rfl rfl ?_;apply zEx;apply zEx;refine⟨fun w' hS K hK=>?_,?_,?_⟩;(focus (obtain⟨hS1,hS2,hS3,hS4,hS5⟩:=hS;go_wp2;exact hK _ _ (by simp only[zl,zG,zH];first|exact RX.bneB _|rfl) rfl));(focus (simp only[zA,zB,zC,zD];rfl))));refine hR _ _ ?_;clear hR R)
   refine zeY (fun R hR=>?_)
   refine zgY (by first|rfl|(rw[HO.out];rfl)) rfl (fun K hK=>?_)
   go_wp2
   first|refine⟨(by first|exact .inl rfl|exact .inl trivial|trivial),hR _ _ (RY.wpL_nil (hQR _ _ ?_))⟩|refine hR _ _ (RY.wpL_nil (hQR _ _ ?_))|refine hQR _ _ ?_
   (try clear hR);(try clear R);clear hQR QR HO OPS
   go_wp2
   go_roundw
   case rel=>exact⟨j+1,by omega,by go_num,hI6,grown_drew (hg.trans (grownBy_setCell _ _ _ _))⟩
   case measure=>simp[intOf];omega
  ·have hdj:decide ((j:Int) < (r.sh.length:Int))=false:=zDf (by omega)
   obtain rfl:j=r.sh.length:=by omega
   have HR2:Hid (IntsAt wr b 0 ((spread Z (rowT (r,y))).map wrap64)):=zN (by
    have e:(rowT (r,y)).take r.sh.length=rowT (r,y):=List.take_of_length_le (by simp[rowT])
    rw[←e];exact HI.out)
   have HGF:=zN (HG1.out.trans hg)
   clear hg HI
   go_wp2
   refine bodyPost_end (results_none rfl _ _ _) rfl ?_
   exact⟨rfl,HR2.out,HGF.out⟩
open Go.RowKit Go.Grid Go.Shelf Go.Proofs
theorem rover23_ok (S:Sy) (v:Value) (p:Option Addr) (x:List Int) (xc:Nat) (pe:Option Addr) (ce b5:Nat) (w:World) (hS:SysIn w v S) (hok:SyOk S) (hV:VecAt w p x) (hvo:VecOk S.f S.s S.a x)
  (hpe:0 < (edgesL S.f.toNat).length→pe=some ⟨b5,0,none⟩) (hP:EdsAt w b5 (edgesL S.f.toNat)) (hce:(edgesL S.f.toNat).length≤ce) :
  Calls Tryz.prog 79 #[.slice pe (edgesL S.f.toNat).length ce,v,.slice p x.length xc] w fun e w'=>∃ N,e=.returned (.slice (some ⟨N,0,none⟩) S.n S.n)∧IntsAt w' N 0 (multL S x)∧w.heap.size≤N∧Below w.heap.size w w':=by
 have HS:=zN hS
 have HOK:=zN hok
 obtain⟨p1,d1,p2,d2,rfl,hd1,hd2,hR,hTg⟩:=hS
 have HR:=zN hR
 have HX:=zN hV
 have hxb:Bd 1048576 x:=hvo.2.2
 have HXB:Hid (Bd 1099511627776 x):=zN (hxb.mono (by omega))
 have hxn:x.length=S.n:=vecOk_n hok hvo
 obtain⟨hn3,hn4,hn5⟩:=hok.nodes
 have hpr:=hok.1
 have hrl:S.rows.length≤200:=hok.2.1
 have hf1:1≤S.f.toNat:=by have:=hpr.1;omega
 have hf8:S.f.toNat≤8:=by have:=hpr.2.1;omega
 have hfn:((S.f.toNat:Nat):Int)=S.f:=Int.toNat_of_nonneg (by have:=hpr.1;omega)
 have hDin:=edges_in hf1 hf8
 have hDl:=edges_len (n:=S.f.toNat) hf8
 have hM:((nodesL S.f.toNat).length:Int)=(x.length:Int):=by
  rw[nodes_len hf1 hf8,hxn,hn3];push_cast;rw[hfn];omega
 rw[hM] at hDin
 have hpv:Hid (prv S.f S.s S.a=.agg #[.int .i64 S.f,.int .i64 S.s,.int .i64 S.a]):=zN rfl
 have HOV:Hid (∀ w',EdsAt w' b5 (edgesL S.f.toNat)→VecAt w' p x→Calls Tryz.prog 114 #[.slice pe (edgesL S.f.toNat).length ce,.agg #[.int .i64 S.f,.int .i64 S.s,.int .i64 S.a],.slice p x.length xc] w' fun e w''=>∃ N,e=.returned (.slice (some ⟨N,0,none⟩) x.length x.length)∧IntsAt w'' N 0 (applyL S.s S.a x (edgesL S.f.toNat))∧w'.heap.size≤N∧Below w'.heap.size w' w''):=zN (fun w' h1 h2=>by
  have h:=rover_any S.f S.s S.a pe ce b5 (edgesL S.f.toNat) p x xc w' hpe h1 hce hDin hDl h2 (by have:=hpr.2.2.1;omega) hpr.2.2.2.1 hpr.2.2.2.2.1 hpr.2.2.2.2.2 hxb (by omega) (by omega)
  rw[hpv.out] at h
  exact h)
 have HMB:=zN (multL_bd hok hvo)
 have HRT:Hid (∀ t (h1:t < S.rows.length),TermOk S.n (S.rows[t],valL S.rows[t].sh x)):=zN (fun t h1=>(hok.rfT hxb (S.rows[t],valL S.rows[t].sh x) (by unfold rfM;exact List.mem_map.2 ⟨_,List.getElem_mem h1,rfl⟩)).1)
 obtain⟨D,hD⟩:∃ D,D=edgesL S.f.toNat:=⟨_,rfl⟩
 rw[←hD] at HOV hP ⊢
 have HRF:Hid ((rfM S x).length=S.rows.length):=zN (by simp[rfM])
 have HRG:Hid (∀ t (h1:t < (rfM S x).length),(rfM S x)[t]=(S.rows[t]'(by simpa[rfM] using h1),valL (S.rows[t]'(by simpa[rfM] using h1)).sh x)):=zN (fun t h1=>by simp[rfM])
 obtain⟨A,hA⟩:∃ A,A=applyL S.s S.a x D:=⟨_,rfl⟩
 have hAl:A.length=x.length:=by rw[hA,apL_len]
 have HAB:Hid (A.map wrap64=A):=zN (by
  refine wrap_map ?_
  rw[hA,hD]
  exact (applyL_bd (vecOk_nat hvo)).mono (by omega))
 have HMU:Hid (multL S x=spread A (tAll (rfM S x))):=zN (by unfold multL;rw[hA,hD])
 rw[←hA] at HOV
 obtain⟨n,hn⟩:∃ n,n=S.n:=⟨_,rfl⟩
 rw[←hn] at hn3 hn4 hn5 hxn HRT ⊢
 have HXN:=zN hxn
 have HAL:Hid (A.length=n):=zN (by omega)
 have HPD:=zN hP
 clear hR hTg hV hxb hok hvo hpr hf1 hf8 hfn hDin hDl hM hpe hP hce hD hA hAl hn hn3 hxn
 go_enter Tryz.func79,Tryz.ntmps79
 go_wp2_with fail
 have hb0:Below w.heap.size w (w.alloc (.cells #[.int .i64 S.f,.int .i64 S.s,.int .i64 S.a,.slice p1 S.rows.length d1,.slice p2 S.targets.length d2] 27)):=(by repeat (first|(with_reducible first|assumption|exact zBr _ _|refine zBs ?_ (by first|omega|simp<;>omega) _|refine zBa ?_ (by first|omega|simp<;>omega) _|apply zBd)|assumption))
 have h5:Five (w.alloc (.cells #[.int .i64 S.f,.int .i64 S.s,.int .i64 S.a,.slice p1 S.rows.length d1,.slice p2 S.targets.length d2] 27)) w.heap.size S.f S.s S.a (.slice p1 S.rows.length d1) (.slice p2 S.targets.length d2):=⟨(by simp[zO,zJ,zQ]),(by simp[zO,zJ,zQ]),(by simp[zO,zJ,zQ]),(by simp[zO,zJ,zQ]),(by simp[zO,zJ,zQ])⟩
 have hEA:EdsAt (w.alloc (.cells #[.int .i64 S.f,.int .i64 S.s,.int .i64 S.a,.slice p1 S.rows.length d1,.slice p2 S.targets.length d2] 27)) b5 D:=fun k hk=>⟨zP hb0 (HPD.out k hk).1,zP hb0 (HPD.out k hk).2⟩
 refine (HOV.out _ hEA (HX.out.below hb0)).mono ?_
 rintro e w2 ⟨N,rfl,hIN,hNw,hb2⟩
 replace h5:=h5.below hb2
 have hB:Below w.heap.size w w2:=hb0.trans (hb2.mono hb0.size)
 have hwN:w.heap.size < N:=by simp at hNw;omega
 rw[HXN.out]
 obtain⟨_,_,_,c3,_⟩:=h5
 have HI3:=zN hIN
 have HB:=zN hB
 have hne:¬ (w.heap.size=N):=by omega
 have hg3:=World.grownBy.refl w2 (some N)
 clear hb0 hb2 hEA hNw hIN hB HOV
 go_wp2
 go_loopw [8] (fun i wr=>∃ t:Nat,t≤S.rows.length∧i=.int .i64 t∧Hid (IntsAt wr N 0 ((spread A (tTo (rfM S x) t)).map wrap64))∧w2.grownBy wr (some N)) (fun i _=>S.rows.length-(intOf i).toNat)
 case atStart=>exact⟨0,Nat.zero_le _,rfl,zN (by rw[show spread A (tTo (rfM S x) 0)=A from rfl,HAB.out];exact HI3.out),hg3⟩
 case round=>
  clear hg3 HI3
  obtain⟨t,ht,rfl,HI,hg⟩:=hrel
  have m3:=hg.cell c3 (by simp;exact hne)
  by_cases hlt:t < S.rows.length
  ·have hdk:decide ((t:Int) < (S.rows.length:Int))=true:=zDt (by omega)
   have hbw:Below w.heap.size w wr:=HB.out.grown hg HB.out.size (fun k hk=>by injection hk with hk;omega)
   obtain⟨bR,oR,rfl,hbR,hcR⟩:=HR.out.get (by omega)
   obtain⟨q,cap,g0,gcap,gsh,g1,g2,g3⟩:=hcR t hlt
   replace g0:=zP hbw g0
   replace g1:=zP hbw g1
   replace g2:=zP hbw g2
   replace g3:=zP hbw g3
   have hok1:=HRT.out t hlt
   have hrow:=HOK.out.row (List.getElem_mem hlt)
   have HSuc:Hid (tTo (rfM S x) (t+1)=tTo (rfM S x) t ++ rowT (S.rows[t],valL S.rows[t].sh x)):=zN (by
    rw[tTo_succ (by rw[HRF.out];exact hlt),HRG.out])
   obtain⟨r,hr⟩:∃ r,r=S.rows[t]:=⟨_,rfl⟩
   rw[←hr] at g0 gcap gsh g1 g2 g3 hok1 HSuc hrow
   have HSW:=zN hrow.2.2.1
   have hshl:=hrow.2.2.2.1
   have HG0:=zN gsh
   obtain⟨y,hy⟩:∃ y,y=valL r.sh x:=⟨_,rfl⟩
   rw[←hy] at hok1 HSuc
   have HY:=zN hy
   have HK1:=zN hok1
   have HBW:=zN hbw
   have hrw:Hid (rwv r q cap=.agg #[.slice q r.sh.length cap,.int .i64 r.value,.int .i64 r.weight,.int .i64 r.report]):=zN rfl
   obtain⟨Z,hZ⟩:∃ Z,Z=spread A (tTo (rfM S x) t):=⟨_,rfl⟩
   have HZl:Hid (Z.length=n):=zN (by rw[hZ,spread_len,HAL.out])
   have HNEW:Hid (spread A (tTo (rfM S x) (t+1))=spread Z (rowT (r,y))):=zN (by rw[HSuc.out,spread_append,←hZ])
   rw[←hZ] at HI
   have hNw:N < wr.heap.size:=zM _ _ (HI.out 0 (by rw[List.length_map,HZl.out];omega)).1
   have ht0:(0:Int)≤(t:Int):=by omega
   have htI:(t:Int) < (S.rows.length:Int):=by omega
   have hxl:x.length≤1000000000:=by rw[HXN.out];omega
   have HG:=zN hg
   clear hr hy hcR gsh hok1 hbw hZ HSuc hg hrow
   go_wp2
   refine RY.region RX.fN (fun w'=>w'.cell? ⟨w.heap.size,3,none⟩=some (.slice (some ⟨bR,oR,none⟩) S.rows.length d1)∧w'.cell? ⟨bR,oR+t*4,none⟩=some (.slice q r.sh.length cap)∧w'.cell? ⟨bR,oR+t*4+1,none⟩=some (.int .i64 r.value)∧w'.cell? ⟨bR,oR+t*4+2,none⟩=some (.int .i64 r.weight)∧w'.cell? ⟨bR,oR+t*4+3,none⟩=some (.int .i64 r.report)) (by kernel_rfl) (by kernel_rfl) (⟨m3,g0,g1,g2,g3⟩) (fun OPS HO QR hQR=>?_)
   repeat (refine zeY (fun R hR=>?_);(first|refine zbY rfl rfl (by first|exact .inl rfl|exact .inr rfl) (by simp only[zE,zF,zG,zH];rfl) (by simp only[zA,zB,zC,zD];rfl) ?_|refine zcY rfl rfl rfl (by simp only[zE,zF,zG,zH];rfl) (by simp only[zA,zB,zC,zD];rfl) ?_|(refine zdY rfl rfl rfl rfl ?_;apply zEx;apply zEx;refine⟨fun w' hS K hK=>?_,?_,?_⟩;(focus (obtain⟨hS1,hS2,hS3,hS4,hS5⟩:=hS;go_wp2;exact hK _ _ (by simp only[zl,zG,zH];first|exact RX.bneB _|rfl) rfl));(focus (simp only[zA,zB,zC,zD];rfl))));refine hR _ _ ?_;clear hR R)
   refine zeY (fun R hR=>?_)
   refine zgY (by first|rfl|(rw[HO.out];rfl)) rfl (fun K hK=>?_)
   go_wp2_with fail
   rw[←hrw.out]
   rw[←HXN.out]
   refine (rsum_any r q cap x p xc _ (HG0.out.below HBW.out.drew) gcap (by omega) HSW.out (HX.out.below HBW.out.drew) HXB.out hxl).mono ?_
   rintro e w5 ⟨rfl,hb5⟩
   rw[←HY.out]
   rw[hrw.out]
   replace hb5:Below wr.heap.size wr w5:=⟨hb5.os,hb5.tape,hb5.output,hb5.size,hb5.block⟩
   replace m3:=zP hb5 m3
   replace g0:=zP hb5 g0
   replace g1:=zP hb5 g1
   replace g2:=zP hb5 g2
   replace g3:=zP hb5 g3
   have HI5:Hid (IntsAt w5 N 0 (Z.map wrap64)):=zN (HI.out.below hb5)
   have hNw5:N < w5.heap.size:=by have:=hb5.size;omega
   have HBW5:Hid (Below w.heap.size w w5):=zN (HBW.out.trans (hb5.mono HBW.out.size))
   have HG5:Hid (w2.grownBy w5 (some N)):=zN (HG.out.trans (grw_below hb5 _))
   clear hb5 HI hNw HBW HG
   rw[HXN.out]
   refine hK _ _ ⟨.inr (⟨m3,g0,g1,g2,g3⟩),hR _ _ ?_⟩;clear hK K hR R
   repeat (refine zeY (fun R hR=>?_);(first|refine zbY rfl rfl (by first|exact .inl rfl|exact .inr rfl) (by simp only[zE,zF,zG,zH];rfl) (by simp only[zA,zB,zC,zD];rfl) ?_|refine zcY rfl rfl rfl (by simp only[zE,zF,zG,zH];rfl) (by simp only[zA,zB,zC,zD];rfl) ?_|(refine zdY rfl rfl rfl rfl ?_;apply zEx;apply zEx;refine⟨fun w' hS K hK=>?_,?_,?_⟩;(focus (obtain⟨hS1,hS2,hS3,hS4,hS5⟩:=hS;go_wp2;exact hK _ _ (by simp only[zl,zG,zH];first|exact RX.bneB _|rfl) rfl));(focus (simp only[zA,zB,zC,zD];rfl))));refine hR _ _ ?_;clear hR R)
   refine zeY (fun R hR=>?_)
   refine zgY (by first|rfl|(rw[HO.out];rfl)) rfl (fun K hK=>?_)
   go_wp2_with fail
   rw[←hrw.out]
   refine (rspread_any r q cap y N n n Z _ HZl.out HI5.out hNw5 (fun w' hg'=>HG0.out.below (HBW5.out.grown hg' HBW5.out.size (fun k hk=>by injection hk with hk;omega))) gcap HK1.out).mono ?_
   rintro e w6 ⟨rfl,hI6,hg6⟩
   have HI6:=zN hI6
   have HG6:Hid (w2.grownBy w6 (some N)):=zN (HG5.out.trans hg6)
   clear hI6 hg6
   refine hK _ _ ⟨(by first|exact .inl rfl|exact .inl trivial|trivial),hR _ _ ?_⟩;clear hK K hR R
   refine RY.wpL_nil (hQR _ _ ?_);clear hQR QR HO OPS
   go_wp2
   go_roundw
   case rel=>exact⟨t+1,by omega,by go_num,by rw[HNEW.out];exact HI6,HG6.out⟩
   case measure=>simp[intOf];omega
  ·have hdk:decide ((t:Int) < (S.rows.length:Int))=false:=zDf (by omega)
   obtain rfl:t=S.rows.length:=by omega
   have HIF:Hid (IntsAt wr N 0 (multL S x)):=zN (by
    have h9:=HI.out
    rw[←HRF.out,tTo_all,←HMU.out,wrap_map (HMB.out.mono (by omega))] at h9
    exact h9)
   have HBF:Hid (Below w.heap.size w wr):=zN (HB.out.grown hg HB.out.size (fun k hk=>by injection hk with hk;omega))
   clear hg
   go_wp2
   go_ret
   exact⟨N,rfl,HIF.out,by omega,HBF.out⟩
theorem rmult_no (S:Sy) (v:Value) (p:Option Addr) (x:List Int) (xc:Nat) (w:World) (hS:SysIn w v S) (hl:SyLen S) (h:sysErr S≠0) :
  Calls Tryz.prog 27 #[v,.slice p x.length xc] w fun e w'=>e=.returned (.tuple #[.slice none 0 0,.int .i64 (sysErr S)])∧Below w.heap.size w w':=by
 have HH:Hid (∀ w2 v2,SysIn w2 v2 S→Calls Tryz.prog 74 #[v2,.slice p x.length xc] w2 fun e w'=>e=.returned (.int .i64 (sysErr S))∧Below w2.heap.size w2 w'):=zN (fun w2 v2 h2=>rvec23_no S v2 p x xc w2 h2 hl h)
 obtain⟨E,hE⟩:∃ E,E=sysErr S:=⟨_,rfl⟩
 rw[←hE] at h HH ⊢
 have hbe:(E != 0)=true:=by rw[bne_iff_ne];exact h
 have HS:=zN hS
 obtain⟨p1,d1,p2,d2,rfl,_⟩:=hS
 clear hE
 go_enter Tryz.func27,Tryz.ntmps27
 go_wp2_with fail
 refine (HH.out _ _ (HS.out.below (by repeat (first|(with_reducible first|assumption|exact zBr _ _|refine zBs ?_ (by first|omega|simp<;>omega) _|refine zBa ?_ (by first|omega|simp<;>omega) _|apply zBd)|assumption)))).mono ?_
 rintro e w1 ⟨rfl,hb1⟩
 have hB:Below w.heap.size w w1:=Below.trans (by repeat (first|(with_reducible first|assumption|exact zBr _ _|refine zBs ?_ (by first|omega|simp<;>omega) _|refine zBa ?_ (by first|omega|simp<;>omega) _|apply zBd)|assumption)) (hb1.mono (by simp<;>omega))
 clear hb1
 go_wp2
 go_ret2
 exact⟨rfl,hB⟩
theorem rmult_vec (S:Sy) (v:Value) (p:Option Addr) (x:List Int) (xc:Nat) (w:World) (hS:SysIn w v S) (hok:SyOk S) (hV:VecAt w p x) (hxl:x.length≤1000000000) (hI:I64L x) (h:¬ VecOk S.f S.s S.a x) :
  Calls Tryz.prog 27 #[v,.slice p x.length xc] w fun e w'=>e=.returned (.tuple #[.slice none 0 0,.int .i64 1])∧Below w.heap.size w w':=by
 have HH:Hid (∀ w2 v2,SysIn w2 v2 S→VecAt w2 p x→Calls Tryz.prog 74 #[v2,.slice p x.length xc] w2 fun e w'=>e=.returned (.int .i64 1)∧Below w2.heap.size w2 w'):=zN (fun w2 v2 h2 h3=>by
  have h9:=rvec23_ok S v2 p x xc w2 h2 hok hok.len h3 hxl hI
  rw[vecErr,if_neg h] at h9
  exact h9)
 have HS:=zN hS
 obtain⟨p1,d1,p2,d2,rfl,_⟩:=hS
 go_enter Tryz.func27,Tryz.ntmps27
 go_wp2_with fail
 refine (HH.out _ _ (HS.out.below (by repeat (first|(with_reducible first|assumption|exact zBr _ _|refine zBs ?_ (by first|omega|simp<;>omega) _|refine zBa ?_ (by first|omega|simp<;>omega) _|apply zBd)|assumption))) (hV.below (by repeat (first|(with_reducible first|assumption|exact zBr _ _|refine zBs ?_ (by first|omega|simp<;>omega) _|refine zBa ?_ (by first|omega|simp<;>omega) _|apply zBd)|assumption)))).mono ?_
 rintro e w1 ⟨rfl,hb1⟩
 have hB:Below w.heap.size w w1:=Below.trans (by repeat (first|(with_reducible first|assumption|exact zBr _ _|refine zBs ?_ (by first|omega|simp<;>omega) _|refine zBa ?_ (by first|omega|simp<;>omega) _|apply zBd)|assumption)) (hb1.mono (by simp<;>omega))
 clear hb1
 go_wp2
 go_ret2
 exact⟨rfl,hB⟩
theorem rmult_ok (S:Sy) (v:Value) (p:Option Addr) (x:List Int) (xc:Nat) (w:World) (hS:SysIn w v S) (hok:SyOk S) (hV:VecAt w p x) (hvo:VecOk S.f S.s S.a x) :
  Calls Tryz.prog 27 #[v,.slice p x.length xc] w fun e w'=>∃ N,e=.returned (.tuple #[.slice (some ⟨N,0,none⟩) S.n S.n,.int .i64 0])∧IntsAt w' N 0 (multL S x)∧w.heap.size≤N∧Below w.heap.size w w':=by
 have HS:=zN hS
 have HX:=zN hV
 have hxn:=vecOk_n hok hvo
 have hn5:=hok.nodes.2.2
 have HVE:Hid (∀ w2 v2,SysIn w2 v2 S→VecAt w2 p x→Calls Tryz.prog 74 #[v2,.slice p x.length xc] w2 fun e w'=>e=.returned (.int .i64 0)∧Below w2.heap.size w2 w'):=zN (fun w2 v2 h2 h3=>by
  have h9:=rvec23_ok S v2 p x xc w2 h2 hok hok.len h3 (by omega) (i64_bd hvo.2.2 (by omega))
  rw[vecErr,if_pos hvo] at h9
  exact h9)
 have hfn:((S.f.toNat:Nat):Int)=S.f:=Int.toNat_of_nonneg (by have:=hok.1.1;omega)
 have HED:Hid (∀ w2,Calls Tryz.prog 78 #[.int .i64 S.f] w2 fun e w'=>∃ v,e=.returned (.tuple #[v,.int .i64 0])∧EdRow w' w2.heap.size v (edgesL S.f.toNat)∧Below w2.heap.size w2 w'):=zN (fun w2=>by
  have h9:=redges_any S.f.toNat (by have:=hok.1.1;omega) (by have:=hok.1.2.1;omega) w2
  rw[hfn] at h9;exact h9)
 have HOV:Hid (∀ (pe:Option Addr) (ce b5:Nat) w2 v2,SysIn w2 v2 S→VecAt w2 p x→(0 < (edgesL S.f.toNat).length→pe=some ⟨b5,0,none⟩)→EdsAt w2 b5 (edgesL S.f.toNat)→(edgesL S.f.toNat).length≤ce→Calls Tryz.prog 79 #[.slice pe (edgesL S.f.toNat).length ce,v2,.slice p x.length xc] w2 fun e w'=>∃ N,e=.returned (.slice (some ⟨N,0,none⟩) S.n S.n)∧IntsAt w' N 0 (multL S x)∧w2.heap.size≤N∧Below w2.heap.size w2 w'):=zN (fun pe ce b5 w2 v2 h1 h2 h3 h4 h5=>rover23_ok S v2 p x xc pe ce b5 w2 h1 hok h2 hvo h3 h4 h5)
 obtain⟨D,hD⟩:∃ D,D=edgesL S.f.toNat:=⟨_,rfl⟩
 rw[←hD] at HED HOV
 obtain⟨p1,d1,p2,d2,rfl,_⟩:=hS
 clear hD hok hvo hV hfn hxn hn5
 go_enter Tryz.func27,Tryz.ntmps27
 go_wp2_with fail
 have hb0:Below w.heap.size w (w.alloc (.cells #[.int .i64 S.f,.int .i64 S.s,.int .i64 S.a,.slice p1 S.rows.length d1,.slice p2 S.targets.length d2] 27)):=(by repeat (first|(with_reducible first|assumption|exact zBr _ _|refine zBs ?_ (by first|omega|simp<;>omega) _|refine zBa ?_ (by first|omega|simp<;>omega) _|apply zBd)|assumption))
 have h5:Five (w.alloc (.cells #[.int .i64 S.f,.int .i64 S.s,.int .i64 S.a,.slice p1 S.rows.length d1,.slice p2 S.targets.length d2] 27)) w.heap.size S.f S.s S.a (.slice p1 S.rows.length d1) (.slice p2 S.targets.length d2):=⟨(by simp[zO,zJ,zQ]),(by simp[zO,zJ,zQ]),(by simp[zO,zJ,zQ]),(by simp[zO,zJ,zQ]),(by simp[zO,zJ,zQ])⟩
 refine (HVE.out _ _ (HS.out.below hb0) (HX.out.below hb0)).mono ?_
 rintro e w1 ⟨rfl,hb1⟩
 have hB:Below w.heap.size w w1:=hb0.trans (hb1.mono hb0.size)
 obtain⟨y0,y1,y2,y3,y4⟩:=h5.below hb1
 clear hb0 hb1 h5
 go_wp2_with fail
 refine (HED.out _).mono ?_
 rintro e w2 ⟨ve,rfl,hrow,hb2⟩
 obtain⟨pe,ce,b5,rfl,hce,hpe,hP⟩:=hrow.form
 replace hB:=hB.trans (hb2.mono hB.size)
 replace y0:=zP hb2 y0
 replace y1:=zP hb2 y1
 replace y2:=zP hb2 y2
 replace y3:=zP hb2 y3
 replace y4:=zP hb2 y4
 have HP:=zN hP
 have HPE:=zN hpe
 clear hb2 hrow hP hpe
 go_wp2_with fail
 refine (HOV.out pe ce b5 w2 _ (HS.out.below hB) (HX.out.below hB) (fun h=>(HPE.out h).1) HP.out hce).mono ?_
 rintro e w3 ⟨N,rfl,hI,hNw,hb3⟩
 have HI:=zN hI
 have hwN:w.heap.size≤N:=by have:=hB.size;omega
 have HB3:=zN (hB.trans (hb3.mono hB.size))
 clear hI hb3 hNw
 go_wp2
 go_ret2
 exact⟨N,rfl,HI.out,hwN,HB3.out⟩
theorem rless23_any (p1 p2:Option Addr) (x y:List Int) (n c1 c2:Nat) (w:World) (hx:x.length=n) (hy:y.length=n) (h1:VecAt w p1 x) (h2:VecAt w p2 y) (hn:n≤1000000000) (bx:Bd 4611686018427387903 x) (byy:Bd 4611686018427387903 y) :
  Calls Tryz.prog 80 #[.slice p1 n c1,.slice p2 n c2] w fun e w'=>∃ v,e=.returned v∧RowV w' w.heap.size v (lessL x y)∧Below w.heap.size w w':=by
 have HX:=zN h1
 have HY:=zN h2
 have HXL:=zN hx
 have HYL:=zN hy
 have HXW:=zN bx
 have HYW:=zN byy
 clear h1 h2 bx byy hx hy
 go_enter Tryz.func80,Tryz.ntmps80
 go_wp2
 go_loopw [5,6] (fun v i wr=>∃ (j:Nat) (T:List Int),j≤n∧i=.int .i64 j∧T.length=j∧Hid (T=lessL (x.take j) (y.take j))∧RowV wr w.heap.size v T∧Below w.heap.size w wr) (fun v i _=>n-(intOf i).toNat)
 case atStart=>exact⟨0,[],by omega,rfl,rfl,zN rfl,RowV.nil _ _,zBr _ _⟩
 case round=>
  obtain⟨_,xs,hj,rfl,rfl,HT,hrow,hB⟩:=hrel
  by_cases hlt:xs.length < n
  ·have hdk:decide ((xs.length:Int) < (n:Int))=true:=zDt (by omega)
   have hltx:xs.length < x.length:=by rw[HXL.out];exact hlt
   have hlty:xs.length < y.length:=by rw[HYL.out];exact hlt
   obtain⟨b1,o1,rfl,hbl,hcell⟩:=HX.out.cell (by omega)
   obtain⟨b2,o2,rfl,hcl,hcell2⟩:=HY.out.cell (by omega)
   have ck:=zP hB (hcell xs.length hltx)
   have dk:=zP hB (hcell2 xs.length hlty)
   have hbz:=HXW.out x[xs.length] (List.getElem_mem _)
   have hby:=HYW.out y[xs.length] (List.getElem_mem _)
   obtain⟨a1,hx⟩:∃ a1,a1=x[xs.length]:=⟨_,rfl⟩
   rw[←hx] at ck hbz
   obtain⟨a2,hu⟩:∃ a2,a2=y[xs.length]:=⟨_,rfl⟩
   rw[←hu] at dk hby
   have hstep:Hid (xs ++ [a1-a2]=lessL (x.take (xs.length+1)) (y.take (xs.length+1))):=zN (by
    rw[List.take_succ_eq_append_getElem hltx,List.take_succ_eq_append_getElem hlty,←hx,←hu]
    have e:=HT.out
    unfold lessL at e ⊢
    rw[List.zipWith_append (by simp;omega),←e];rfl)
   obtain⟨yy,hy⟩:∃ yy,a1-a2=yy:=⟨_,rfl⟩
   rw[hy] at hstep
   clear hx hu hcell hcell2
   obtain⟨p8,c8,rfl,hc8⟩:=own_slice hrow
   have hs1:=hB.size
   have hown:=World.ownsRow.alloc hrow (.cells #[.int .i64 yy] 3)
   clear hrow
   have HB1:=zN hB
   clear hB
   have hxy:-9223372036854775808≤yy∧yy≤9223372036854775807:=by omega
   have hjx0:(0:Int)≤(xs.length:Int):=by omega
   have hjxI:(xs.length:Int) < (n:Int):=by omega
   go_wp2
   refine RY.region RX.fL (fun w'=>w'.cell? ⟨b1,o1+xs.length,none⟩=some (.int .i64 a1)∧w'.cell? ⟨b2,o2+xs.length,none⟩=some (.int .i64 a2)) (by kernel_rfl) (by kernel_rfl) (⟨ck,dk⟩) (fun OPS HO QR hQR=>?_)
   repeat (refine zeY (fun R hR=>?_);(first|refine zbY rfl rfl (by first|exact .inl rfl|exact .inr rfl) (by simp only[zE,zF,zG,zH];rfl) (by simp only[zA,zB,zC,zD];rfl) ?_|(refine zdY rfl rfl rfl rfl ?_;apply zEx;apply zEx;refine⟨fun w' hS K hK=>?_,?_,?_⟩;(focus (obtain⟨hS1,hS2⟩:=hS;go_wp2;exact hK _ _ (by simp only[zl,zG,zH];first|exact RX.bneB _|rfl) rfl));(focus (simp only[zA,zB,zC,zD];rfl))));refine hR _ _ ?_;clear hR R)
   refine zeY (fun R hR=>?_)
   refine zgY (by first|rfl|(rw[HO.out];rfl)) rfl (fun K hK=>?_)
   go_wp2
   refine⟨.inr (⟨(by (try have hLt:=zM _ _ ck);(try simp only at hLt);(repeat first|rw[zO]|rw[zK _ _ _ _ (by first|(simp<;>omega)|omega)]|rw[zJ,if_neg (by first|(simp<;>omega)|omega)]);first|exact ck|(rw[zJ,if_pos (by first|(simp;done)|omega)];exact ck)),(by (try have hLt:=zM _ _ dk);(try simp only at hLt);(repeat first|rw[zO]|rw[zK _ _ _ _ (by first|(simp<;>omega)|omega)]|rw[zJ,if_neg (by first|(simp<;>omega)|omega)]);first|exact dk|(rw[zJ,if_pos (by first|(simp;done)|omega)];exact dk))⟩),hR _ _ ?_⟩;clear hR R
   repeat (refine zeY (fun R hR=>?_);(first|refine zbY rfl rfl (by first|exact .inl rfl|exact .inr rfl) (by simp only[zE,zF,zG,zH];rfl) (by simp only[zA,zB,zC,zD];rfl) ?_|(refine zdY rfl rfl rfl rfl ?_;apply zEx;apply zEx;refine⟨fun w' hS K hK=>?_,?_,?_⟩;(focus (obtain⟨hS1,hS2⟩:=hS;go_wp2;exact hK _ _ (by simp only[zl,zG,zH];first|exact RX.bneB _|rfl) rfl));(focus (simp only[zA,zB,zC,zD];rfl))));refine hR _ _ ?_;clear hR R)
   refine zeY (fun R hR=>?_)
   refine zgY (by first|rfl|(rw[HO.out];rfl)) rfl (fun K hK=>?_)
   refine RX.wp_app elInt _ _ rfl w.heap.size _ _ _ (hown.drew) (by simp only[zE,zF,zG,zH]) wr.heap.size _ 1 (by simp only[zE,zF,zG,zH]) (heap_alloc_new _ _) rfl (by simp[Value.oneCell']) (by omega) (by omega) (by simp;omega) (fun v' w2 hown2 hb2 hg2 hat2=>?_)
   have hlow:∀ q,(Value.slice p8 xs.length c8).ownBlock=some q→w.heap.size≤q:=fun q hq=>(World.ownsRow.lt hown q hq).1
   have HB2:Hid (Below w.heap.size w w2):=zN ((HB1.out.alloc (by omega) _).drew.grown hg2 (by simp;omega) hlow)
   have HR2:Hid (RowV w2 w.heap.size v' (xs ++ [yy])):=zN (RowV.snoc hown2)
   have x2:w2.cell? ⟨b1,o1+xs.length,none⟩=some (.int .i64 a1):=hg2.cell (a:=⟨b1,o1+xs.length,none⟩) (by (try have hLt:=zM _ _ ck);(try simp only at hLt);(repeat first|rw[zO]|rw[zK _ _ _ _ (by first|(simp<;>omega)|omega)]|rw[zJ,if_neg (by first|(simp<;>omega)|omega)]);first|exact ck|(rw[zJ,if_pos (by first|(simp;done)|omega)];exact ck)) (fun e=>by have:=hlow b1 e.symm;omega)
   have y2:w2.cell? ⟨b2,o2+xs.length,none⟩=some (.int .i64 a2):=hg2.cell (a:=⟨b2,o2+xs.length,none⟩) (by (try have hLt:=zM _ _ dk);(try simp only at hLt);(repeat first|rw[zO]|rw[zK _ _ _ _ (by first|(simp<;>omega)|omega)]|rw[zJ,if_neg (by first|(simp<;>omega)|omega)]);first|exact dk|(rw[zJ,if_pos (by first|(simp;done)|omega)];exact dk)) (fun e=>by have:=hlow b2 e.symm;omega)
   refine hK _ _ ⟨.inr (⟨x2,y2⟩),?_⟩;clear hK K;refine RY.at_ (by simp only[RX.put_some,RX.put_none,List.set_cons_zero,List.set_cons_succ];rfl) (hR _ _ ?_);clear hR R
   repeat (refine zeY (fun R hR=>?_);(first|refine zbY rfl rfl (by first|exact .inl rfl|exact .inr rfl) (by simp only[zE,zF,zG,zH];rfl) (by simp only[zA,zB,zC,zD];rfl) ?_|(refine zdY rfl rfl rfl rfl ?_;apply zEx;apply zEx;refine⟨fun w' hS K hK=>?_,?_,?_⟩;(focus (obtain⟨hS1,hS2⟩:=hS;go_wp2;exact hK _ _ (by simp only[zl,zG,zH];first|exact RX.bneB _|rfl) rfl));(focus (simp only[zA,zB,zC,zD];rfl))));refine hR _ _ ?_;clear hR R)
   refine RY.wpL_nil (hQR _ _ ?_);clear hQR QR HO OPS
   go_wp2
   go_roundw
   case rel=>exact⟨xs.length+1,xs ++ [yy],by omega,by go_num,by simp,hstep,HR2.out,HB2.out⟩
   case measure=>simp[intOf];omega
  ·have hdk:decide ((xs.length:Int) < (n:Int))=false:=zDf (by omega)
   have he:xs.length=n:=by omega
   have HE:Hid (xs=lessL x y):=zN (by rw[HT.out,he,List.take_of_length_le (by rw[HXL.out];omega),List.take_of_length_le (by rw[HYL.out];omega)])
   obtain⟨pz,cz,rfl,hcz⟩:=own_slice hrow
   have HROW:=zN hrow
   have HBF:=zN hB
   clear hrow hB HT he
   go_wp2
   go_ret
   exact⟨_,rfl,by rw[←HE.out];exact HROW.out,HBF.out⟩
noncomputable def sxErr (S:Sy) (x:List Int):Int:=if sysErr S=0 then vecErr S.f S.s S.a x else sysErr S
theorem sxErr_vec {S:Sy} {x:List Int} (h:sysErr S=0) (hv:¬ VecOk S.f S.s S.a x):sxErr S x=1:=by unfold sxErr;rw[if_pos h,vecErr_no hv]
theorem sxErr_sys {S:Sy} {x:List Int} (h:¬ sysErr S=0):sxErr S x=sysErr S:=if_neg h
open Classical in
noncomputable def costV (S:Sy) (x:List Int):Int:=if SyOk S∧VecOk S.f S.s S.a x then costL S x else 0
open Classical in
noncomputable def multV (S:Sy) (x:List Int):List Int:=if SyOk S∧VecOk S.f S.s S.a x then multL S x else []
open Classical in
noncomputable def resV (S:Sy) (x:List Int):List Int:=if SyOk S∧VecOk S.f S.s S.a x then resL S x else []
open Classical in
noncomputable def rightV (S:Sy):List Int:=if SyOk S then rightL S else []
open Classical in
noncomputable def diagV (S:Sy):List Int:=if SyOk S then diagL S else []
theorem RowV.rdI {w:World} {base:Nat} {v:Value} {zs:List Int} (h:RowV w base v zs):RdI w v zs:=by
 obtain⟨p,cap,b,rfl,hc,hp,hI⟩:=h.form
 exact⟨p,cap,rfl,hc,h.vecAt⟩
end Go.Proofs.YtojkamfabapcoaaGreatDoor
