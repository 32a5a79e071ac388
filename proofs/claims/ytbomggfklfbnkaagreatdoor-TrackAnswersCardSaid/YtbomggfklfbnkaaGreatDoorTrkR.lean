import Derived.Test.YtbomggfklfbnkaaGreatDoorKTrkC
import Derived.Test.YtbomggfklfbnkaaGreatDoorKRefB
set_option maxRecDepth 100000
set_option maxHeartbeats 8000000
set_option linter.unusedSimpArgs false
set_option linter.unusedVariables false
namespace Go.RX
def fP (o:Oper):Bool:=match o.dst with
 |some 35=>false
 |_=>fN o
end Go.RX
namespace Go.Proofs.YtbomggfklfbnkaaGreatDoor
open Go.RowKit Go.Grid Go.Maps Go.Sort Go.Shelf Go.Chain
theorem raround8 (w:World):Calls Tryz.prog 47 #[.int .i64 8] w fun e w'=>∃ N,e=.returned (.slice (some ⟨N,0,none⟩) (nodesL 8).length (nodesL 8).length)∧AroAt w' N (nodesL 8).length (nextL 8)∧w.heap.size≤N∧Below w.heap.size w w':=by
 have HK:=zN (fun w=>raround_any 8 (by omega) (by omega) w)
 obtain⟨M,hM⟩:∃ M,M=(nodesL 8).length:=⟨_,rfl⟩
 have HM:=zN hM
 rw[←hM] at HK ⊢
 clear hM
 go_enter Tryz.func47,Tryz.ntmps47
 go_wp2_with fail
 refine (HK.out w).mono ?_
 rintro e w1 ⟨N,rfl,hA,hN,hb⟩
 have HA:=zN (And.intro hA (And.intro hN hb))
 clear hA hN hb
 go_wp2
 go_ret
 exact⟨N,rfl,HA.out.1,HA.out.2.1,HA.out.2.2⟩
theorem rplaus_any (N:Nat) (n:Int) (hn0:0≤n) (hn1:n≤1000) (r s:Rep) (hr:RdOk r) (hs:RdOk s) (hvr:ValR r) (hvs:ValR s) (w:World) (hA:AroAt w N (nodesL 8).length (nextL 8)) :
  Calls Tryz.prog 46 #[.slice (some ⟨N,0,none⟩) (nodesL 8).length (nodesL 8).length,rpv r,rpv s,.int .i64 n] w fun e w'=>e=.returned (.bool (plB n r s))∧Below w.heap.size w w':=by
 obtain⟨hpo,e1,e2,e3,e4⟩:=hvr.pl
 obtain⟨hqo,e5,e6,e7,e8⟩:=hvs.pl
 obtain⟨_,ht0,ht1⟩:=hvr
 obtain⟨_,hu0,hu1⟩:=hvs
 have HB:Hid (plB n r s=decide (r.time < s.time∧1440*hop 8 (nearN (plOf r)) (nearN (plOf s))≤n*(s.time-r.time)+1440)):=zN (by rw[←hopN_eq hpo];rfl)
 obtain⟨p,hp⟩:∃ p,p=plOf r:=⟨_,rfl⟩
 obtain⟨q,hq⟩:∃ q,q=plOf s:=⟨_,rfl⟩
 rw[←hp] at HB hpo e1 e2 e3 e4
 rw[←hq] at HB hqo e5 e6 e7 e8
 have hxl:=nearN_lt hpo
 have hyl:=nearN_lt hqo
 obtain⟨hb0,hb1⟩:=hop_bd (n:=8) (by omega) (by omega) hxl hyl (searched (by omega) (by omega) hxl)
 obtain⟨x,hx⟩:∃ x,x=nearN p:=⟨_,rfl⟩
 obtain⟨y,hy⟩:∃ y,y=nearN q:=⟨_,rfl⟩
 rw[←hx] at HB hxl hb0 hb1
 rw[←hy] at HB hyl hb0 hb1
 have HX:=zN hx
 have HY:=zN hy
 obtain⟨h,hh⟩:∃ h,h=hop 8 x y:=⟨_,rfl⟩
 rw[←hh] at HB hb0 hb1
 have HH:=zN hh
 obtain⟨bb,hbb⟩:∃ bb,bb=plB n r s:=⟨_,rfl⟩
 rw[←hbb] at HB ⊢
 have HXL:=zN (And.intro hxl hyl)
 have HA:=zN hA
 have hM8:=nodes_max (n:=8) (by omega) (by omega)
 obtain⟨M,hM⟩:∃ M,M=(nodesL 8).length:=⟨_,rfl⟩
 have HM:=zN hM
 rw[←hM] at hxl hyl HXL HA hM8 ⊢
 clear hp hq hx hy hh hbb hA hM
 obtain⟨k,nm,t,f,a,b,c,rd⟩:=r
 obtain⟨k',nm',t',f',a',b',c',rd'⟩:=s
 obtain⟨pr,nr,cpr,hrd⟩:=hr
 obtain⟨pr',nr',cpr',hrd'⟩:=hs
 dsimp only at *
 subst hrd hrd' e1 e2 e3 e4 e5 e6 e7 e8
 have HPO:=zN hpo
 have HQO:=zN hqo
 have hpv:Hid (pv p=.agg #[.int .i64 p.f,.int .i64 p.a,.int .i64 p.b,.int .i64 p.c]):=zN rfl
 have hqv:Hid (pv q=.agg #[.int .i64 q.f,.int .i64 q.a,.int .i64 q.b,.int .i64 q.c]):=zN rfl
 have HBB:Hid (Below w.heap.size w ((w.alloc (.cells #[.int .i64 k,.string nm,.int .i64 t,.int .i64 p.f,.int .i64 p.a,.int .i64 p.b,.int .i64 p.c,.slice pr nr cpr] 35)).alloc (.cells #[.int .i64 k',.string nm',.int .i64 t',.int .i64 q.f,.int .i64 q.a,.int .i64 q.b,.int .i64 q.c,.slice pr' nr' cpr'] 35))):=zN (by repeat (first|(with_reducible first|assumption|exact zBr _ _|refine zBs ?_ (by first|omega|(simp<;>omega)) _|refine zBa ?_ (by first|omega|(simp<;>omega)) _|apply zBd)|assumption))
 have HC1:Hid (((w.alloc (.cells #[.int .i64 k,.string nm,.int .i64 t,.int .i64 p.f,.int .i64 p.a,.int .i64 p.b,.int .i64 p.c,.slice pr nr cpr] 35)).alloc (.cells #[.int .i64 k',.string nm',.int .i64 t',.int .i64 q.f,.int .i64 q.a,.int .i64 q.b,.int .i64 q.c,.slice pr' nr' cpr'] 35)).cell? ⟨w.heap.size,2,none⟩=some (.int .i64 t)∧((w.alloc (.cells #[.int .i64 k,.string nm,.int .i64 t,.int .i64 p.f,.int .i64 p.a,.int .i64 p.b,.int .i64 p.c,.slice pr nr cpr] 35)).alloc (.cells #[.int .i64 k',.string nm',.int .i64 t',.int .i64 q.f,.int .i64 q.a,.int .i64 q.b,.int .i64 q.c,.slice pr' nr' cpr'] 35)).cell? ⟨w.heap.size+1,2,none⟩=some (.int .i64 t')∧PCell ((w.alloc (.cells #[.int .i64 k,.string nm,.int .i64 t,.int .i64 p.f,.int .i64 p.a,.int .i64 p.b,.int .i64 p.c,.slice pr nr cpr] 35)).alloc (.cells #[.int .i64 k',.string nm',.int .i64 t',.int .i64 q.f,.int .i64 q.a,.int .i64 q.b,.int .i64 q.c,.slice pr' nr' cpr'] 35)) w.heap.size p∧PCell ((w.alloc (.cells #[.int .i64 k,.string nm,.int .i64 t,.int .i64 p.f,.int .i64 p.a,.int .i64 p.b,.int .i64 p.c,.slice pr nr cpr] 35)).alloc (.cells #[.int .i64 k',.string nm',.int .i64 t',.int .i64 q.f,.int .i64 q.a,.int .i64 q.b,.int .i64 q.c,.slice pr' nr' cpr'] 35)) (w.heap.size+1) q):=zN ⟨(by simp[zO,zJ,zQ]),(by simp[zO,zJ,zQ]),⟨(by simp[zO,zJ,zQ]),(by simp[zO,zJ,zQ]),(by simp[zO,zJ,zQ]),(by simp[zO,zJ,zQ])⟩,⟨(by simp[zO,zJ,zQ]),(by simp[zO,zJ,zQ]),(by simp[zO,zJ,zQ]),(by simp[zO,zJ,zQ])⟩⟩
 clear hpo hqo
 unfold rpv
 dsimp only
 by_cases hlt:t'≤t
 ·have hdl:decide (t'≤t)=true:=zDt hlt
  have hbf:bb=false:=by rw[HB.out];exact zDf (fun e=>by omega)
  subst hbf
  clear HC1
  go_enter Tryz.func46,Tryz.ntmps46
  go_wp2
  go_ret
  exact⟨rfl,HBB.out⟩
 ·have hdl:decide (t'≤t)=false:=zDf hlt
  go_enter Tryz.func46,Tryz.ntmps46
  go_wp2_with fail
  obtain⟨P,hP⟩:∃ P,P=w.heap.size:=⟨_,rfl⟩
  rw[←hP] at HC1 ⊢
  have HPP:=zN hP
  clear hP
  generalize ((w.alloc (.cells #[.int .i64 k,.string nm,.int .i64 t,.int .i64 p.f,.int .i64 p.a,.int .i64 p.b,.int .i64 p.c,.slice pr nr cpr] 35)).alloc (.cells #[.int .i64 k',.string nm',.int .i64 t',.int .i64 q.f,.int .i64 q.a,.int .i64 q.b,.int .i64 q.c,.slice pr' nr' cpr'] 35))=wx at *
  obtain⟨s0,s1,⟨s2,s3,s4,s5⟩,⟨s6,s7,s8,s9⟩⟩:=HC1.out
  rw[←hpv.out]
  refine (rnearest_any 8 (by omega) (by omega) p HPO.out wx).mono ?_
  rintro e w1 ⟨T1,rfl,hT1,hb1⟩
  rw[nearN_eq hT1,←HX.out]
  have key:∀ {b j u},wx.cell? ⟨b,j,none⟩=some u→w1.cell? ⟨b,j,none⟩=some u:=fun h=>zP hb1 h
  have HB1:=zN hb1
  replace s0:=key s0
  replace s1:=key s1
  replace s6:=key s6
  replace s7:=key s7
  replace s8:=key s8
  replace s9:=key s9
  clear hT1 hb1 s2 s3 s4 s5 key
  go_wp2_with fail
  rw[←hqv.out]
  refine (rnearest_any 8 (by omega) (by omega) q HQO.out w1).mono ?_
  rintro e w2 ⟨T2,rfl,hT2,hb2⟩
  rw[nearN_eq hT2,←HY.out]
  have key:∀ {b j u},w1.cell? ⟨b,j,none⟩=some u→w2.cell? ⟨b,j,none⟩=some u:=fun h=>zP hb2 h
  have HB2:=zN (HB1.out.trans (hb2.mono HB1.out.size))
  replace s0:=key s0
  replace s1:=key s1
  clear hT2 hb2 s6 s7 s8 s9 key HC1
  go_wp2_with fail
  have hle:Hid (1440*h≤n*(t'-t)+1440↔bb=true):=zN (by rw[HB.out,decide_eq_true_eq];exact⟨fun h=>⟨by omega,h⟩,fun h=>h.2⟩)
  have hd1:0≤t'-t:=by omega
  have hd2:t'-t≤52595999:=by omega
  have hm1:0≤n*(t'-t):=Int.mul_nonneg hn0 hd1
  have hm2:n*(t'-t)≤1000*52595999:=Int.mul_le_mul hn1 hd2 hd1 (by omega)
  have hSS:w2.drew.cell? ⟨P,2,none⟩=some (.int .i64 t)∧w2.drew.cell? ⟨P+1,2,none⟩=some (.int .i64 t'):=⟨s0,s1⟩
  have hAR:AroAt w2.drew N M (nextL 8):=(HA.out.below (HBB.out.trans (HB2.out.mono HBB.out.size))).below (zBd (zBr _ _))
  have HF:=zN (fromlist_any N M M x (nextL 8) w2.drew hAR.rds (by rw[HM.out];exact fun i _ z hz=>next_in (by omega) (by omega) hz) (fun i=>next_len (by omega) (by omega) i) HXL.out.1 hM8 (Nat.le_refl _))
  clear hAR s0 s1
  refine RX.region RX.fP (fun w'=>w'.cell? ⟨P,2,none⟩=some (.int .i64 t)∧w'.cell? ⟨P+1,2,none⟩=some (.int .i64 t')) (by kernel_rfl) (by kernel_rfl) (hSS) (fun OPS HO QR hQR=>?_)
  repeat (refine zeX (fun R hR=>?_);(first|refine zaX (by first|rfl|(rw[HO.out];rfl)) (by simp only[zA,zB,zC,zD];rfl) ?_|refine zbX (by first|rfl|(rw[HO.out];rfl)) rfl (by first|exact .inl rfl|exact .inr rfl) (by simp only[zE,zF,zG,zH];rfl) (by simp only[zA,zB,zC,zD];rfl) ?_|refine zcX (by first|rfl|(rw[HO.out];rfl)) rfl rfl (by simp only[zE,zF,zG,zH];rfl) (by simp only[zA,zB,zC,zD];rfl) ?_|(refine zdX (by first|rfl|(rw[HO.out];rfl)) rfl rfl rfl ?_;apply zEx;apply zEx;refine⟨fun w' hS K hK=>?_,?_,?_⟩;(focus (obtain⟨s0,s1⟩:=hS;go_wp2;exact hK _ _ (by simp only[zl,zG,zH];first|exact zf (by omega)|exact zg (by omega)|exact zh (by omega)|exact zi (by omega)|exact zj (by omega)|exact zk (by omega)|exact RX.bneB _|rfl) rfl));(focus (simp only[zA,zB,zC,zD];rfl))));refine hR _ _ ?_;clear hR R)
  refine zeX (fun R hR=>?_)
  refine zgX (by first|rfl|(rw[HO.out];rfl)) rfl (fun K hK=>?_)
  go_wp2_with fail
  refine HF.out.mono ?_
  rintro e w3 ⟨i,rfl,hi,hF3,hb3⟩
  have hd:(Bfs.st (nbN (nextL 8)) x i).1 y=h:=by
   rw[HH.out]
   exact hop_eq (by omega) (by omega) (by rw[←HM.out];exact HXL.out.1) hi y
  have hc3:=(hF3 y hyl).1
  rw[hd] at hc3
  have hb3':Below w2.heap.size w2 w3:=⟨hb3.os,hb3.tape,hb3.output,hb3.size,hb3.block⟩
  have HB3:=zN (HBB.out.trans ((HB2.out.trans (hb3'.mono HB2.out.size)).mono HBB.out.size))
  have hS3:w3.cell? ⟨P,2,none⟩=some (.int .i64 t)∧w3.cell? ⟨P+1,2,none⟩=some (.int .i64 t'):=⟨zP hb3 hSS.1,zP hb3 hSS.2⟩
  have hy0:(0:Int)≤(y:Int):=by omega
  have hy1:(y:Int) < (M:Int):=by omega
  rw[show w2.drew.heap.size=w2.heap.size from rfl] at hc3 ⊢
  clear hd hi hF3 hb3 hb3' HF hSS
  refine hK _ _ ⟨hS3,hR _ _ ?_⟩;clear hK K hR R
  repeat (refine zeX (fun R hR=>?_);(first|refine zaX (by first|rfl|(rw[HO.out];rfl)) (by simp only[zA,zB,zC,zD];rfl) ?_|refine zbX (by first|rfl|(rw[HO.out];rfl)) rfl (by first|exact .inl rfl|exact .inr rfl) (by simp only[zE,zF,zG,zH];rfl) (by simp only[zA,zB,zC,zD];rfl) ?_|refine zcX (by first|rfl|(rw[HO.out];rfl)) rfl rfl (by simp only[zE,zF,zG,zH];rfl) (by simp only[zA,zB,zC,zD];rfl) ?_|(refine zdX (by first|rfl|(rw[HO.out];rfl)) rfl rfl rfl ?_;apply zEx;apply zEx;refine⟨fun w' hS K hK=>?_,?_,?_⟩;(focus (obtain⟨s0,s1⟩:=hS;go_wp2;exact hK _ _ (by simp only[zl,zG,zH];first|exact zf (by omega)|exact zg (by omega)|exact zh (by omega)|exact zi (by omega)|exact zj (by omega)|exact zk (by omega)|exact RX.bneB _|rfl) rfl));(focus (simp only[zA,zB,zC,zD];rfl))));refine hR _ _ ?_;clear hR R)
  refine zeX (fun R hR=>?_)
  refine zgX (by first|rfl|(rw[HO.out];rfl)) rfl (fun K hK=>?_)
  go_wp2
  refine⟨hS3,hR _ _ ?_⟩;clear hR R
  repeat (refine zeX (fun R hR=>?_);(first|refine zaX (by first|rfl|(rw[HO.out];rfl)) (by simp only[zA,zB,zC,zD];rfl) ?_|refine zbX (by first|rfl|(rw[HO.out];rfl)) rfl (by first|exact .inl rfl|exact .inr rfl) (by simp only[zE,zF,zG,zH];rfl) (by simp only[zA,zB,zC,zD];rfl) ?_|refine zcX (by first|rfl|(rw[HO.out];rfl)) rfl rfl (by simp only[zE,zF,zG,zH];rfl) (by simp only[zA,zB,zC,zD];rfl) ?_|(refine zdX (by first|rfl|(rw[HO.out];rfl)) rfl rfl rfl ?_;apply zEx;apply zEx;refine⟨fun w' hS K hK=>?_,?_,?_⟩;(focus (obtain⟨s0,s1⟩:=hS;go_wp2;exact hK _ _ (by simp only[zl,zG,zH];first|exact zf (by omega)|exact zg (by omega)|exact zh (by omega)|exact zi (by omega)|exact zj (by omega)|exact zk (by omega)|exact RX.bneB _|rfl) rfl));(focus (simp only[zA,zB,zC,zD];rfl))));refine hR _ _ ?_;clear hR R)
  refine RX.wpL_nil (hQR _ _ (hS3) ?_);clear hQR QR HO OPS
  go_wp2
  go_ret
  exact⟨congrArg (fun b=>Ending.returned (Value.bool b)) (Bool.eq_iff_iff.2 (by rw[decide_eq_true_eq];exact hle.out)),HB3.out⟩
theorem RC.bl {P:Nat} {w w':World} {k:Int} {nm:ByteArray} {t f a b c:Int} {p:Option Addr} {n cp:Nat} (h:RC P w k nm t f a b c p n cp) (hb:Below w.heap.size w w'):RC P w' k nm t f a b c p n cp:=
 ⟨zP hb h.c0,zP hb h.c1,zP hb h.c2,zP hb h.c3,zP hb h.c4,zP hb h.c5,zP hb h.c6,zP hb h.c7⟩
theorem rPlausible_any (n:Int) (r s:Rep) (hr:RdOk r) (hs:RdOk s) (w:World) :
  Calls Tryz.prog 20 #[rpv r,rpv s,.int .i64 n] w fun e w'=>e=.returned (.bool (plausB n r s))∧Below w.heap.size w w':=by
 have HR:=zN hr
 have HS:=zN hs
 obtain⟨k,nm,t,f,a,b,c,rd⟩:=r
 obtain⟨k',nm',t',f',a',b',c',rd'⟩:=s
 obtain⟨pr,nr,cpr,hrd⟩:=hr
 obtain⟨pr',nr',cpr',hrd'⟩:=hs
 dsimp only at hrd hrd'
 subst hrd hrd'
 have hrv:Hid (rpv ⟨k,nm,t,f,a,b,c,.slice pr nr cpr⟩=.agg #[.int .i64 k,.string nm,.int .i64 t,.int .i64 f,.int .i64 a,.int .i64 b,.int .i64 c,.slice pr nr cpr]):=zN rfl
 have hsv:Hid (rpv ⟨k',nm',t',f',a',b',c',.slice pr' nr' cpr'⟩=.agg #[.int .i64 k',.string nm',.int .i64 t',.int .i64 f',.int .i64 a',.int .i64 b',.int .i64 c',.slice pr' nr' cpr']):=zN rfl
 rw[hrv.out,hsv.out]
 obtain⟨RR,hR⟩:∃ R:Rep,R=⟨k,nm,t,f,a,b,c,.slice pr nr cpr⟩:=⟨_,rfl⟩
 obtain⟨SS,hS⟩:∃ S:Rep,S=⟨k',nm',t',f',a',b',c',.slice pr' nr' cpr'⟩:=⟨_,rfl⟩
 rw[←hR] at HR hrv ⊢
 rw[←hS] at HS hsv ⊢
 clear hR hS
 obtain⟨bb,hbb⟩:∃ bb,bb=plausB n RR SS:=⟨_,rfl⟩
 rw[←hbb]
 have HB:Hid (bb=(hopB n && decide (ValR RR) && decide (ValR SS) && plB n RR SS)):=zN hbb
 clear hbb
 have HBW:Hid (Below w.heap.size w ((w.alloc (.cells #[.int .i64 k,.string nm,.int .i64 t,.int .i64 f,.int .i64 a,.int .i64 b,.int .i64 c,.slice pr nr cpr] 35)).alloc (.cells #[.int .i64 k',.string nm',.int .i64 t',.int .i64 f',.int .i64 a',.int .i64 b',.int .i64 c',.slice pr' nr' cpr'] 35))):=zN (by repeat (first|(with_reducible first|assumption|exact zBr _ _|refine zBs ?_ (by first|omega|(simp<;>omega)) _|refine zBa ?_ (by first|omega|(simp<;>omega)) _|apply zBd)|assumption))
 have hW1:=(RptW.new w ⟨k,nm,t,f,a,b,c,.slice pr nr cpr⟩).below (show Below _ _ ((w.alloc (.cells #[.int .i64 k,.string nm,.int .i64 t,.int .i64 f,.int .i64 a,.int .i64 b,.int .i64 c,.slice pr nr cpr] 35)).alloc (.cells #[.int .i64 k',.string nm',.int .i64 t',.int .i64 f',.int .i64 a',.int .i64 b',.int .i64 c',.slice pr' nr' cpr'] 35)) from (zBr _ _).alloc (Nat.le_refl _) _)
 have hW2:=RptW.new (w.alloc (.cells #[.int .i64 k,.string nm,.int .i64 t,.int .i64 f,.int .i64 a,.int .i64 b,.int .i64 c,.slice pr nr cpr] 35)) ⟨k',nm',t',f',a',b',c',.slice pr' nr' cpr'⟩
 rw[show (w.alloc (.cells #[.int .i64 k,.string nm,.int .i64 t,.int .i64 f,.int .i64 a,.int .i64 b,.int .i64 c,.slice pr nr cpr] 35)).heap.size=w.heap.size+1 by simp] at hW2
 have HC:Hid (RC w.heap.size ((w.alloc (.cells #[.int .i64 k,.string nm,.int .i64 t,.int .i64 f,.int .i64 a,.int .i64 b,.int .i64 c,.slice pr nr cpr] 35)).alloc (.cells #[.int .i64 k',.string nm',.int .i64 t',.int .i64 f',.int .i64 a',.int .i64 b',.int .i64 c',.slice pr' nr' cpr'] 35)) k nm t f a b c pr nr cpr∧RC (w.heap.size+1) ((w.alloc (.cells #[.int .i64 k,.string nm,.int .i64 t,.int .i64 f,.int .i64 a,.int .i64 b,.int .i64 c,.slice pr nr cpr] 35)).alloc (.cells #[.int .i64 k',.string nm',.int .i64 t',.int .i64 f',.int .i64 a',.int .i64 b',.int .i64 c',.slice pr' nr' cpr'] 35)) k' nm' t' f' a' b' c' pr' nr' cpr'):=zN ⟨⟨hW1.c0,hW1.c1,hW1.c2,hW1.c3,hW1.c4,hW1.c5,hW1.c6,hW1.c7⟩,⟨hW2.c0,hW2.c1,hW2.c2,hW2.c3,hW2.c4,hW2.c5,hW2.c6,hW2.c7⟩⟩
 clear hW1 hW2
 go_enter Tryz.func20,Tryz.ntmps20
 go_wp2_with fail
 obtain⟨P,hP⟩:∃ P,P=w.heap.size:=⟨_,rfl⟩
 rw[←hP] at HC ⊢
 clear hP
 generalize ((w.alloc (.cells #[.int .i64 k,.string nm,.int .i64 t,.int .i64 f,.int .i64 a,.int .i64 b,.int .i64 c,.slice pr nr cpr] 35)).alloc (.cells #[.int .i64 k',.string nm',.int .i64 t',.int .i64 f',.int .i64 a',.int .i64 b',.int .i64 c',.slice pr' nr' cpr'] 35))=w0 at *
 have HB0:=HBW
 have hS0:RC P w0.drew k nm t f a b c pr nr cpr∧RC (P+1) w0.drew k' nm' t' f' a' b' c' pr' nr' cpr':=⟨HC.out.1.bl (zBd (zBr _ _)),HC.out.2.bl (zBd (zBr _ _))⟩
 clear HBW HC
 cases hv1:decide (ValR RR)
 ·
  have HV1:=zN hv1
  have hbf:bb=false:=by rw[HB.out,hv1,Bool.and_false];rfl
  subst hbf
  refine RX.region RX.fN (fun w'=>RC P w' k nm t f a b c pr nr cpr∧RC (P+1) w' k' nm' t' f' a' b' c' pr' nr' cpr') (by kernel_rfl) (by kernel_rfl) (hS0) (fun OPS HO QR hQR=>?_)
  repeat (refine zeX (fun R hR=>?_);(first|refine zaX (by first|rfl|(rw[HO.out];rfl)) (by simp only[zA,zB,zC,zD];rfl) ?_|refine zbX (by first|rfl|(rw[HO.out];rfl)) rfl (by first|exact .inl rfl|exact .inr rfl) (by simp only[zE,zF,zG,zH];rfl) (by simp only[zA,zB,zC,zD];rfl) ?_|refine zcX (by first|rfl|(rw[HO.out];rfl)) rfl rfl (by simp only[zE,zF,zG,zH];rfl) (by simp only[zA,zB,zC,zD];rfl) ?_|(refine zdX (by first|rfl|(rw[HO.out];rfl)) rfl rfl rfl ?_;apply zEx;apply zEx;refine⟨fun w' hS K hK=>?_,?_,?_⟩;(focus (obtain⟨⟨x0,x1,x2,x3,x4,x5,x6,x7⟩,⟨y0,y1,y2,y3,y4,y5,y6,y7⟩⟩:=hS;go_wp2;exact hK _ _ (by simp only[zl,zG,zH];first|exact zf (by omega)|exact zg (by omega)|exact zh (by omega)|exact zi (by omega)|exact zj (by omega)|exact zk (by omega)|exact RX.bneB _|rfl) rfl));(focus (simp only[zA,zB,zC,zD];rfl))));refine hR _ _ ?_;clear hR R)
  refine zeX (fun R hR=>?_)
  refine zgX (by first|rfl|(rw[HO.out];rfl)) rfl (fun K hK=>?_)
  go_wp2_with fail
  rw[←hrv.out]
  refine (rvalid12_any RR HR.out _).mono ?_
  rintro e w1 ⟨rfl,hbw1⟩
  rw[HV1.out]
  have HB1:=zN (HB0.out.trans ((⟨hbw1.os,hbw1.tape,hbw1.output,hbw1.size,hbw1.block⟩:Below w0.heap.size w0 w1).mono HB0.out.size))
  have hS1:RC P w1 k nm t f a b c pr nr cpr∧RC (P+1) w1 k' nm' t' f' a' b' c' pr' nr' cpr':=⟨hS0.1.bl hbw1,hS0.2.bl hbw1⟩
  clear hbw1
  refine hK _ _ ⟨hS1,hR _ _ ?_⟩;clear hK K hR R
  repeat (refine zeX (fun R hR=>?_);(first|refine zaX (by first|rfl|(rw[HO.out];rfl)) (by simp only[zA,zB,zC,zD];rfl) ?_|refine zbX (by first|rfl|(rw[HO.out];rfl)) rfl (by first|exact .inl rfl|exact .inr rfl) (by simp only[zE,zF,zG,zH];rfl) (by simp only[zA,zB,zC,zD];rfl) ?_|refine zcX (by first|rfl|(rw[HO.out];rfl)) rfl rfl (by simp only[zE,zF,zG,zH];rfl) (by simp only[zA,zB,zC,zD];rfl) ?_|(refine zdX (by first|rfl|(rw[HO.out];rfl)) rfl rfl rfl ?_;apply zEx;apply zEx;refine⟨fun w' hS K hK=>?_,?_,?_⟩;(focus (obtain⟨⟨x0,x1,x2,x3,x4,x5,x6,x7⟩,⟨y0,y1,y2,y3,y4,y5,y6,y7⟩⟩:=hS;go_wp2;exact hK _ _ (by simp only[zl,zG,zH];first|exact zf (by omega)|exact zg (by omega)|exact zh (by omega)|exact zi (by omega)|exact zj (by omega)|exact zk (by omega)|exact RX.bneB _|rfl) rfl));(focus (simp only[zA,zB,zC,zD];rfl))));refine hR _ _ ?_;clear hR R)
  refine RX.wpL_nil (hQR _ _ (hS1) ?_);clear hQR QR HO OPS
  go_wp2
  go_ret
  exact⟨rfl,HB1.out⟩
 have HV1:=zN hv1
 clear hv1
 cases hv2:decide (ValR SS)
 ·
  have HV2:=zN hv2
  have hbf:bb=false:=by rw[HB.out,hv2,Bool.and_false];rfl
  subst hbf
  refine RX.region RX.fN (fun w'=>RC P w' k nm t f a b c pr nr cpr∧RC (P+1) w' k' nm' t' f' a' b' c' pr' nr' cpr') (by kernel_rfl) (by kernel_rfl) (hS0) (fun OPS HO QR hQR=>?_)
  repeat (refine zeX (fun R hR=>?_);(first|refine zaX (by first|rfl|(rw[HO.out];rfl)) (by simp only[zA,zB,zC,zD];rfl) ?_|refine zbX (by first|rfl|(rw[HO.out];rfl)) rfl (by first|exact .inl rfl|exact .inr rfl) (by simp only[zE,zF,zG,zH];rfl) (by simp only[zA,zB,zC,zD];rfl) ?_|refine zcX (by first|rfl|(rw[HO.out];rfl)) rfl rfl (by simp only[zE,zF,zG,zH];rfl) (by simp only[zA,zB,zC,zD];rfl) ?_|(refine zdX (by first|rfl|(rw[HO.out];rfl)) rfl rfl rfl ?_;apply zEx;apply zEx;refine⟨fun w' hS K hK=>?_,?_,?_⟩;(focus (obtain⟨⟨x0,x1,x2,x3,x4,x5,x6,x7⟩,⟨y0,y1,y2,y3,y4,y5,y6,y7⟩⟩:=hS;go_wp2;exact hK _ _ (by simp only[zl,zG,zH];first|exact zf (by omega)|exact zg (by omega)|exact zh (by omega)|exact zi (by omega)|exact zj (by omega)|exact zk (by omega)|exact RX.bneB _|rfl) rfl));(focus (simp only[zA,zB,zC,zD];rfl))));refine hR _ _ ?_;clear hR R)
  refine zeX (fun R hR=>?_)
  refine zgX (by first|rfl|(rw[HO.out];rfl)) rfl (fun K hK=>?_)
  go_wp2_with fail
  rw[←hrv.out]
  refine (rvalid12_any RR HR.out _).mono ?_
  rintro e w1 ⟨rfl,hbw1⟩
  rw[HV1.out]
  have HB1:=zN (HB0.out.trans ((⟨hbw1.os,hbw1.tape,hbw1.output,hbw1.size,hbw1.block⟩:Below w0.heap.size w0 w1).mono HB0.out.size))
  have hS1:RC P w1 k nm t f a b c pr nr cpr∧RC (P+1) w1 k' nm' t' f' a' b' c' pr' nr' cpr':=⟨hS0.1.bl hbw1,hS0.2.bl hbw1⟩
  clear hbw1
  refine hK _ _ ⟨hS1,hR _ _ ?_⟩;clear hK K hR R
  repeat (refine zeX (fun R hR=>?_);(first|refine zaX (by first|rfl|(rw[HO.out];rfl)) (by simp only[zA,zB,zC,zD];rfl) ?_|refine zbX (by first|rfl|(rw[HO.out];rfl)) rfl (by first|exact .inl rfl|exact .inr rfl) (by simp only[zE,zF,zG,zH];rfl) (by simp only[zA,zB,zC,zD];rfl) ?_|refine zcX (by first|rfl|(rw[HO.out];rfl)) rfl rfl (by simp only[zE,zF,zG,zH];rfl) (by simp only[zA,zB,zC,zD];rfl) ?_|(refine zdX (by first|rfl|(rw[HO.out];rfl)) rfl rfl rfl ?_;apply zEx;apply zEx;refine⟨fun w' hS K hK=>?_,?_,?_⟩;(focus (obtain⟨⟨x0,x1,x2,x3,x4,x5,x6,x7⟩,⟨y0,y1,y2,y3,y4,y5,y6,y7⟩⟩:=hS;go_wp2;exact hK _ _ (by simp only[zl,zG,zH];first|exact zf (by omega)|exact zg (by omega)|exact zh (by omega)|exact zi (by omega)|exact zj (by omega)|exact zk (by omega)|exact RX.bneB _|rfl) rfl));(focus (simp only[zA,zB,zC,zD];rfl))));refine hR _ _ ?_;clear hR R)
  refine zeX (fun R hR=>?_)
  refine zgX (by first|rfl|(rw[HO.out];rfl)) rfl (fun K hK=>?_)
  go_wp2_with fail
  rw[←hsv.out]
  refine (rvalid12_any SS HS.out _).mono ?_
  rintro e w2 ⟨rfl,hbw2⟩
  rw[HV2.out]
  have HB2:=zN (HB1.out.trans (hbw2.mono HB1.out.size))
  have hS2:RC P w2 k nm t f a b c pr nr cpr∧RC (P+1) w2 k' nm' t' f' a' b' c' pr' nr' cpr':=⟨hS1.1.bl hbw2,hS1.2.bl hbw2⟩
  clear hbw2
  refine hK _ _ ⟨hS2,hR _ _ ?_⟩;clear hK K hR R
  repeat (refine zeX (fun R hR=>?_);(first|refine zaX (by first|rfl|(rw[HO.out];rfl)) (by simp only[zA,zB,zC,zD];rfl) ?_|refine zbX (by first|rfl|(rw[HO.out];rfl)) rfl (by first|exact .inl rfl|exact .inr rfl) (by simp only[zE,zF,zG,zH];rfl) (by simp only[zA,zB,zC,zD];rfl) ?_|refine zcX (by first|rfl|(rw[HO.out];rfl)) rfl rfl (by simp only[zE,zF,zG,zH];rfl) (by simp only[zA,zB,zC,zD];rfl) ?_|(refine zdX (by first|rfl|(rw[HO.out];rfl)) rfl rfl rfl ?_;apply zEx;apply zEx;refine⟨fun w' hS K hK=>?_,?_,?_⟩;(focus (obtain⟨⟨x0,x1,x2,x3,x4,x5,x6,x7⟩,⟨y0,y1,y2,y3,y4,y5,y6,y7⟩⟩:=hS;go_wp2;exact hK _ _ (by simp only[zl,zG,zH];first|exact zf (by omega)|exact zg (by omega)|exact zh (by omega)|exact zi (by omega)|exact zj (by omega)|exact zk (by omega)|exact RX.bneB _|rfl) rfl));(focus (simp only[zA,zB,zC,zD];rfl))));refine hR _ _ ?_;clear hR R)
  refine RX.wpL_nil (hQR _ _ (hS2) ?_);clear hQR QR HO OPS
  go_wp2
  go_ret
  exact⟨rfl,HB2.out⟩
 have HV2:=zN hv2
 clear hv2
 by_cases hn0:¬ 0≤n
 ·
  have hn2:n < 0:=by omega
  clear hn0
  have hbf:bb=false:=by rw[HB.out,show hopB n=false from zDf (by omega)];rfl
  subst hbf
  refine RX.region RX.fN (fun w'=>RC P w' k nm t f a b c pr nr cpr∧RC (P+1) w' k' nm' t' f' a' b' c' pr' nr' cpr') (by kernel_rfl) (by kernel_rfl) (hS0) (fun OPS HO QR hQR=>?_)
  repeat (refine zeX (fun R hR=>?_);(first|refine zaX (by first|rfl|(rw[HO.out];rfl)) (by simp only[zA,zB,zC,zD];rfl) ?_|refine zbX (by first|rfl|(rw[HO.out];rfl)) rfl (by first|exact .inl rfl|exact .inr rfl) (by simp only[zE,zF,zG,zH];rfl) (by simp only[zA,zB,zC,zD];rfl) ?_|refine zcX (by first|rfl|(rw[HO.out];rfl)) rfl rfl (by simp only[zE,zF,zG,zH];rfl) (by simp only[zA,zB,zC,zD];rfl) ?_|(refine zdX (by first|rfl|(rw[HO.out];rfl)) rfl rfl rfl ?_;apply zEx;apply zEx;refine⟨fun w' hS K hK=>?_,?_,?_⟩;(focus (obtain⟨⟨x0,x1,x2,x3,x4,x5,x6,x7⟩,⟨y0,y1,y2,y3,y4,y5,y6,y7⟩⟩:=hS;go_wp2;exact hK _ _ (by simp only[zl,zG,zH];first|exact zf (by omega)|exact zg (by omega)|exact zh (by omega)|exact zi (by omega)|exact zj (by omega)|exact zk (by omega)|exact RX.bneB _|rfl) rfl));(focus (simp only[zA,zB,zC,zD];rfl))));refine hR _ _ ?_;clear hR R)
  refine zeX (fun R hR=>?_)
  refine zgX (by first|rfl|(rw[HO.out];rfl)) rfl (fun K hK=>?_)
  go_wp2_with fail
  rw[←hrv.out]
  refine (rvalid12_any RR HR.out _).mono ?_
  rintro e w1 ⟨rfl,hbw1⟩
  rw[HV1.out]
  have HB1:=zN (HB0.out.trans ((⟨hbw1.os,hbw1.tape,hbw1.output,hbw1.size,hbw1.block⟩:Below w0.heap.size w0 w1).mono HB0.out.size))
  have hS1:RC P w1 k nm t f a b c pr nr cpr∧RC (P+1) w1 k' nm' t' f' a' b' c' pr' nr' cpr':=⟨hS0.1.bl hbw1,hS0.2.bl hbw1⟩
  clear hbw1
  refine hK _ _ ⟨hS1,hR _ _ ?_⟩;clear hK K hR R
  repeat (refine zeX (fun R hR=>?_);(first|refine zaX (by first|rfl|(rw[HO.out];rfl)) (by simp only[zA,zB,zC,zD];rfl) ?_|refine zbX (by first|rfl|(rw[HO.out];rfl)) rfl (by first|exact .inl rfl|exact .inr rfl) (by simp only[zE,zF,zG,zH];rfl) (by simp only[zA,zB,zC,zD];rfl) ?_|refine zcX (by first|rfl|(rw[HO.out];rfl)) rfl rfl (by simp only[zE,zF,zG,zH];rfl) (by simp only[zA,zB,zC,zD];rfl) ?_|(refine zdX (by first|rfl|(rw[HO.out];rfl)) rfl rfl rfl ?_;apply zEx;apply zEx;refine⟨fun w' hS K hK=>?_,?_,?_⟩;(focus (obtain⟨⟨x0,x1,x2,x3,x4,x5,x6,x7⟩,⟨y0,y1,y2,y3,y4,y5,y6,y7⟩⟩:=hS;go_wp2;exact hK _ _ (by simp only[zl,zG,zH];first|exact zf (by omega)|exact zg (by omega)|exact zh (by omega)|exact zi (by omega)|exact zj (by omega)|exact zk (by omega)|exact RX.bneB _|rfl) rfl));(focus (simp only[zA,zB,zC,zD];rfl))));refine hR _ _ ?_;clear hR R)
  refine zeX (fun R hR=>?_)
  refine zgX (by first|rfl|(rw[HO.out];rfl)) rfl (fun K hK=>?_)
  go_wp2_with fail
  rw[←hsv.out]
  refine (rvalid12_any SS HS.out _).mono ?_
  rintro e w2 ⟨rfl,hbw2⟩
  rw[HV2.out]
  have HB2:=zN (HB1.out.trans (hbw2.mono HB1.out.size))
  have hS2:RC P w2 k nm t f a b c pr nr cpr∧RC (P+1) w2 k' nm' t' f' a' b' c' pr' nr' cpr':=⟨hS1.1.bl hbw2,hS1.2.bl hbw2⟩
  clear hbw2
  refine hK _ _ ⟨hS2,hR _ _ ?_⟩;clear hK K hR R
  repeat (refine zeX (fun R hR=>?_);(first|refine zaX (by first|rfl|(rw[HO.out];rfl)) (by simp only[zA,zB,zC,zD];rfl) ?_|refine zbX (by first|rfl|(rw[HO.out];rfl)) rfl (by first|exact .inl rfl|exact .inr rfl) (by simp only[zE,zF,zG,zH];rfl) (by simp only[zA,zB,zC,zD];rfl) ?_|refine zcX (by first|rfl|(rw[HO.out];rfl)) rfl rfl (by simp only[zE,zF,zG,zH];rfl) (by simp only[zA,zB,zC,zD];rfl) ?_|(refine zdX (by first|rfl|(rw[HO.out];rfl)) rfl rfl rfl ?_;apply zEx;apply zEx;refine⟨fun w' hS K hK=>?_,?_,?_⟩;(focus (obtain⟨⟨x0,x1,x2,x3,x4,x5,x6,x7⟩,⟨y0,y1,y2,y3,y4,y5,y6,y7⟩⟩:=hS;go_wp2;exact hK _ _ (by simp only[zl,zG,zH];first|exact zf (by omega)|exact zg (by omega)|exact zh (by omega)|exact zi (by omega)|exact zj (by omega)|exact zk (by omega)|exact RX.bneB _|rfl) rfl));(focus (simp only[zA,zB,zC,zD];rfl))));refine hR _ _ ?_;clear hR R)
  refine RX.wpL_nil (hQR _ _ (hS2) ?_);clear hQR QR HO OPS
  go_wp2
  go_ret
  exact⟨rfl,HB2.out⟩
 replace hn0:=Decidable.not_not.1 hn0
 by_cases hn1:n≤1000
 ·
  have hbf:Hid (bb=plB n RR SS):=zN (by rw[HB.out,show hopB n=true from zDt ⟨hn0,hn1⟩,HV1.out,HV2.out];rfl)
  clear HB
  refine RX.region RX.fN (fun w'=>RC P w' k nm t f a b c pr nr cpr∧RC (P+1) w' k' nm' t' f' a' b' c' pr' nr' cpr') (by kernel_rfl) (by kernel_rfl) (hS0) (fun OPS HO QR hQR=>?_)
  repeat (refine zeX (fun R hR=>?_);(first|refine zaX (by first|rfl|(rw[HO.out];rfl)) (by simp only[zA,zB,zC,zD];rfl) ?_|refine zbX (by first|rfl|(rw[HO.out];rfl)) rfl (by first|exact .inl rfl|exact .inr rfl) (by simp only[zE,zF,zG,zH];rfl) (by simp only[zA,zB,zC,zD];rfl) ?_|refine zcX (by first|rfl|(rw[HO.out];rfl)) rfl rfl (by simp only[zE,zF,zG,zH];rfl) (by simp only[zA,zB,zC,zD];rfl) ?_|(refine zdX (by first|rfl|(rw[HO.out];rfl)) rfl rfl rfl ?_;apply zEx;apply zEx;refine⟨fun w' hS K hK=>?_,?_,?_⟩;(focus (obtain⟨⟨x0,x1,x2,x3,x4,x5,x6,x7⟩,⟨y0,y1,y2,y3,y4,y5,y6,y7⟩⟩:=hS;go_wp2;exact hK _ _ (by simp only[zl,zG,zH];first|exact zf (by omega)|exact zg (by omega)|exact zh (by omega)|exact zi (by omega)|exact zj (by omega)|exact zk (by omega)|exact RX.bneB _|rfl) rfl));(focus (simp only[zA,zB,zC,zD];rfl))));refine hR _ _ ?_;clear hR R)
  refine zeX (fun R hR=>?_)
  refine zgX (by first|rfl|(rw[HO.out];rfl)) rfl (fun K hK=>?_)
  go_wp2_with fail
  rw[←hrv.out]
  refine (rvalid12_any RR HR.out _).mono ?_
  rintro e w1 ⟨rfl,hbw1⟩
  rw[HV1.out]
  have HB1:=zN (HB0.out.trans ((⟨hbw1.os,hbw1.tape,hbw1.output,hbw1.size,hbw1.block⟩:Below w0.heap.size w0 w1).mono HB0.out.size))
  have hS1:RC P w1 k nm t f a b c pr nr cpr∧RC (P+1) w1 k' nm' t' f' a' b' c' pr' nr' cpr':=⟨hS0.1.bl hbw1,hS0.2.bl hbw1⟩
  clear hbw1
  refine hK _ _ ⟨hS1,hR _ _ ?_⟩;clear hK K hR R
  repeat (refine zeX (fun R hR=>?_);(first|refine zaX (by first|rfl|(rw[HO.out];rfl)) (by simp only[zA,zB,zC,zD];rfl) ?_|refine zbX (by first|rfl|(rw[HO.out];rfl)) rfl (by first|exact .inl rfl|exact .inr rfl) (by simp only[zE,zF,zG,zH];rfl) (by simp only[zA,zB,zC,zD];rfl) ?_|refine zcX (by first|rfl|(rw[HO.out];rfl)) rfl rfl (by simp only[zE,zF,zG,zH];rfl) (by simp only[zA,zB,zC,zD];rfl) ?_|(refine zdX (by first|rfl|(rw[HO.out];rfl)) rfl rfl rfl ?_;apply zEx;apply zEx;refine⟨fun w' hS K hK=>?_,?_,?_⟩;(focus (obtain⟨⟨x0,x1,x2,x3,x4,x5,x6,x7⟩,⟨y0,y1,y2,y3,y4,y5,y6,y7⟩⟩:=hS;go_wp2;exact hK _ _ (by simp only[zl,zG,zH];first|exact zf (by omega)|exact zg (by omega)|exact zh (by omega)|exact zi (by omega)|exact zj (by omega)|exact zk (by omega)|exact RX.bneB _|rfl) rfl));(focus (simp only[zA,zB,zC,zD];rfl))));refine hR _ _ ?_;clear hR R)
  refine zeX (fun R hR=>?_)
  refine zgX (by first|rfl|(rw[HO.out];rfl)) rfl (fun K hK=>?_)
  go_wp2_with fail
  rw[←hsv.out]
  refine (rvalid12_any SS HS.out _).mono ?_
  rintro e w2 ⟨rfl,hbw2⟩
  rw[HV2.out]
  have HB2:=zN (HB1.out.trans (hbw2.mono HB1.out.size))
  have hS2:RC P w2 k nm t f a b c pr nr cpr∧RC (P+1) w2 k' nm' t' f' a' b' c' pr' nr' cpr':=⟨hS1.1.bl hbw2,hS1.2.bl hbw2⟩
  clear hbw2
  refine hK _ _ ⟨hS2,hR _ _ ?_⟩;clear hK K hR R
  repeat (refine zeX (fun R hR=>?_);(first|refine zaX (by first|rfl|(rw[HO.out];rfl)) (by simp only[zA,zB,zC,zD];rfl) ?_|refine zbX (by first|rfl|(rw[HO.out];rfl)) rfl (by first|exact .inl rfl|exact .inr rfl) (by simp only[zE,zF,zG,zH];rfl) (by simp only[zA,zB,zC,zD];rfl) ?_|refine zcX (by first|rfl|(rw[HO.out];rfl)) rfl rfl (by simp only[zE,zF,zG,zH];rfl) (by simp only[zA,zB,zC,zD];rfl) ?_|(refine zdX (by first|rfl|(rw[HO.out];rfl)) rfl rfl rfl ?_;apply zEx;apply zEx;refine⟨fun w' hS K hK=>?_,?_,?_⟩;(focus (obtain⟨⟨x0,x1,x2,x3,x4,x5,x6,x7⟩,⟨y0,y1,y2,y3,y4,y5,y6,y7⟩⟩:=hS;go_wp2;exact hK _ _ (by simp only[zl,zG,zH];first|exact zf (by omega)|exact zg (by omega)|exact zh (by omega)|exact zi (by omega)|exact zj (by omega)|exact zk (by omega)|exact RX.bneB _|rfl) rfl));(focus (simp only[zA,zB,zC,zD];rfl))));refine hR _ _ ?_;clear hR R)
  refine zeX (fun R hR=>?_)
  refine zgX (by first|rfl|(rw[HO.out];rfl)) rfl (fun K hK=>?_)
  go_wp2_with fail
  refine (raround8 w2).mono ?_
  rintro e w3 ⟨N,rfl,hA3,_,hb3⟩
  have HA3:=zN hA3
  have HB3:=zN (HB2.out.trans (hb3.mono HB2.out.size))
  have hS3:RC P w3 k nm t f a b c pr nr cpr∧RC (P+1) w3 k' nm' t' f' a' b' c' pr' nr' cpr':=⟨hS2.1.bl hb3,hS2.2.bl hb3⟩
  clear hA3 hb3
  refine hK _ _ ⟨hS3,hR _ _ ?_⟩;clear hK K hR R
  repeat (refine zeX (fun R hR=>?_);(first|refine zaX (by first|rfl|(rw[HO.out];rfl)) (by simp only[zA,zB,zC,zD];rfl) ?_|refine zbX (by first|rfl|(rw[HO.out];rfl)) rfl (by first|exact .inl rfl|exact .inr rfl) (by simp only[zE,zF,zG,zH];rfl) (by simp only[zA,zB,zC,zD];rfl) ?_|refine zcX (by first|rfl|(rw[HO.out];rfl)) rfl rfl (by simp only[zE,zF,zG,zH];rfl) (by simp only[zA,zB,zC,zD];rfl) ?_|(refine zdX (by first|rfl|(rw[HO.out];rfl)) rfl rfl rfl ?_;apply zEx;apply zEx;refine⟨fun w' hS K hK=>?_,?_,?_⟩;(focus (obtain⟨⟨x0,x1,x2,x3,x4,x5,x6,x7⟩,⟨y0,y1,y2,y3,y4,y5,y6,y7⟩⟩:=hS;go_wp2;exact hK _ _ (by simp only[zl,zG,zH];first|exact zf (by omega)|exact zg (by omega)|exact zh (by omega)|exact zi (by omega)|exact zj (by omega)|exact zk (by omega)|exact RX.bneB _|rfl) rfl));(focus (simp only[zA,zB,zC,zD];rfl))));refine hR _ _ ?_;clear hR R)
  refine zeX (fun R hR=>?_)
  refine zgX (by first|rfl|(rw[HO.out];rfl)) rfl (fun K hK=>?_)
  go_wp2_with fail
  rw[←hrv.out,←hsv.out]
  refine (rplaus_any N n hn0 hn1 RR SS HR.out HS.out (of_decide_eq_true HV1.out) (of_decide_eq_true HV2.out) w3 HA3.out).mono ?_
  rintro e w4 ⟨rfl,hb4⟩
  rw[←hbf.out]
  have HB4:=zN (HB3.out.trans (hb4.mono HB3.out.size))
  have hS4:RC P w4 k nm t f a b c pr nr cpr∧RC (P+1) w4 k' nm' t' f' a' b' c' pr' nr' cpr':=⟨hS3.1.bl hb4,hS3.2.bl hb4⟩
  clear hb4
  refine hK _ _ ⟨hS4,hR _ _ ?_⟩;clear hK K hR R
  repeat (refine zeX (fun R hR=>?_);(first|refine zaX (by first|rfl|(rw[HO.out];rfl)) (by simp only[zA,zB,zC,zD];rfl) ?_|refine zbX (by first|rfl|(rw[HO.out];rfl)) rfl (by first|exact .inl rfl|exact .inr rfl) (by simp only[zE,zF,zG,zH];rfl) (by simp only[zA,zB,zC,zD];rfl) ?_|refine zcX (by first|rfl|(rw[HO.out];rfl)) rfl rfl (by simp only[zE,zF,zG,zH];rfl) (by simp only[zA,zB,zC,zD];rfl) ?_|(refine zdX (by first|rfl|(rw[HO.out];rfl)) rfl rfl rfl ?_;apply zEx;apply zEx;refine⟨fun w' hS K hK=>?_,?_,?_⟩;(focus (obtain⟨⟨x0,x1,x2,x3,x4,x5,x6,x7⟩,⟨y0,y1,y2,y3,y4,y5,y6,y7⟩⟩:=hS;go_wp2;exact hK _ _ (by simp only[zl,zG,zH];first|exact zf (by omega)|exact zg (by omega)|exact zh (by omega)|exact zi (by omega)|exact zj (by omega)|exact zk (by omega)|exact RX.bneB _|rfl) rfl));(focus (simp only[zA,zB,zC,zD];rfl))));refine hR _ _ ?_;clear hR R)
  refine RX.wpL_nil (hQR _ _ (hS4) ?_);clear hQR QR HO OPS
  go_wp2
  go_ret
  exact⟨rfl,HB4.out⟩
 ·
  have hn2:1000 < n:=by omega
  clear hn1
  have hbf:bb=false:=by rw[HB.out,show hopB n=false from zDf (by omega)];rfl
  subst hbf
  refine RX.region RX.fN (fun w'=>RC P w' k nm t f a b c pr nr cpr∧RC (P+1) w' k' nm' t' f' a' b' c' pr' nr' cpr') (by kernel_rfl) (by kernel_rfl) (hS0) (fun OPS HO QR hQR=>?_)
  repeat (refine zeX (fun R hR=>?_);(first|refine zaX (by first|rfl|(rw[HO.out];rfl)) (by simp only[zA,zB,zC,zD];rfl) ?_|refine zbX (by first|rfl|(rw[HO.out];rfl)) rfl (by first|exact .inl rfl|exact .inr rfl) (by simp only[zE,zF,zG,zH];rfl) (by simp only[zA,zB,zC,zD];rfl) ?_|refine zcX (by first|rfl|(rw[HO.out];rfl)) rfl rfl (by simp only[zE,zF,zG,zH];rfl) (by simp only[zA,zB,zC,zD];rfl) ?_|(refine zdX (by first|rfl|(rw[HO.out];rfl)) rfl rfl rfl ?_;apply zEx;apply zEx;refine⟨fun w' hS K hK=>?_,?_,?_⟩;(focus (obtain⟨⟨x0,x1,x2,x3,x4,x5,x6,x7⟩,⟨y0,y1,y2,y3,y4,y5,y6,y7⟩⟩:=hS;go_wp2;exact hK _ _ (by simp only[zl,zG,zH];first|exact zf (by omega)|exact zg (by omega)|exact zh (by omega)|exact zi (by omega)|exact zj (by omega)|exact zk (by omega)|exact RX.bneB _|rfl) rfl));(focus (simp only[zA,zB,zC,zD];rfl))));refine hR _ _ ?_;clear hR R)
  refine zeX (fun R hR=>?_)
  refine zgX (by first|rfl|(rw[HO.out];rfl)) rfl (fun K hK=>?_)
  go_wp2_with fail
  rw[←hrv.out]
  refine (rvalid12_any RR HR.out _).mono ?_
  rintro e w1 ⟨rfl,hbw1⟩
  rw[HV1.out]
  have HB1:=zN (HB0.out.trans ((⟨hbw1.os,hbw1.tape,hbw1.output,hbw1.size,hbw1.block⟩:Below w0.heap.size w0 w1).mono HB0.out.size))
  have hS1:RC P w1 k nm t f a b c pr nr cpr∧RC (P+1) w1 k' nm' t' f' a' b' c' pr' nr' cpr':=⟨hS0.1.bl hbw1,hS0.2.bl hbw1⟩
  clear hbw1
  refine hK _ _ ⟨hS1,hR _ _ ?_⟩;clear hK K hR R
  repeat (refine zeX (fun R hR=>?_);(first|refine zaX (by first|rfl|(rw[HO.out];rfl)) (by simp only[zA,zB,zC,zD];rfl) ?_|refine zbX (by first|rfl|(rw[HO.out];rfl)) rfl (by first|exact .inl rfl|exact .inr rfl) (by simp only[zE,zF,zG,zH];rfl) (by simp only[zA,zB,zC,zD];rfl) ?_|refine zcX (by first|rfl|(rw[HO.out];rfl)) rfl rfl (by simp only[zE,zF,zG,zH];rfl) (by simp only[zA,zB,zC,zD];rfl) ?_|(refine zdX (by first|rfl|(rw[HO.out];rfl)) rfl rfl rfl ?_;apply zEx;apply zEx;refine⟨fun w' hS K hK=>?_,?_,?_⟩;(focus (obtain⟨⟨x0,x1,x2,x3,x4,x5,x6,x7⟩,⟨y0,y1,y2,y3,y4,y5,y6,y7⟩⟩:=hS;go_wp2;exact hK _ _ (by simp only[zl,zG,zH];first|exact zf (by omega)|exact zg (by omega)|exact zh (by omega)|exact zi (by omega)|exact zj (by omega)|exact zk (by omega)|exact RX.bneB _|rfl) rfl));(focus (simp only[zA,zB,zC,zD];rfl))));refine hR _ _ ?_;clear hR R)
  refine zeX (fun R hR=>?_)
  refine zgX (by first|rfl|(rw[HO.out];rfl)) rfl (fun K hK=>?_)
  go_wp2_with fail
  rw[←hsv.out]
  refine (rvalid12_any SS HS.out _).mono ?_
  rintro e w2 ⟨rfl,hbw2⟩
  rw[HV2.out]
  have HB2:=zN (HB1.out.trans (hbw2.mono HB1.out.size))
  have hS2:RC P w2 k nm t f a b c pr nr cpr∧RC (P+1) w2 k' nm' t' f' a' b' c' pr' nr' cpr':=⟨hS1.1.bl hbw2,hS1.2.bl hbw2⟩
  clear hbw2
  refine hK _ _ ⟨hS2,hR _ _ ?_⟩;clear hK K hR R
  repeat (refine zeX (fun R hR=>?_);(first|refine zaX (by first|rfl|(rw[HO.out];rfl)) (by simp only[zA,zB,zC,zD];rfl) ?_|refine zbX (by first|rfl|(rw[HO.out];rfl)) rfl (by first|exact .inl rfl|exact .inr rfl) (by simp only[zE,zF,zG,zH];rfl) (by simp only[zA,zB,zC,zD];rfl) ?_|refine zcX (by first|rfl|(rw[HO.out];rfl)) rfl rfl (by simp only[zE,zF,zG,zH];rfl) (by simp only[zA,zB,zC,zD];rfl) ?_|(refine zdX (by first|rfl|(rw[HO.out];rfl)) rfl rfl rfl ?_;apply zEx;apply zEx;refine⟨fun w' hS K hK=>?_,?_,?_⟩;(focus (obtain⟨⟨x0,x1,x2,x3,x4,x5,x6,x7⟩,⟨y0,y1,y2,y3,y4,y5,y6,y7⟩⟩:=hS;go_wp2;exact hK _ _ (by simp only[zl,zG,zH];first|exact zf (by omega)|exact zg (by omega)|exact zh (by omega)|exact zi (by omega)|exact zj (by omega)|exact zk (by omega)|exact RX.bneB _|rfl) rfl));(focus (simp only[zA,zB,zC,zD];rfl))));refine hR _ _ ?_;clear hR R)
  refine RX.wpL_nil (hQR _ _ (hS2) ?_);clear hQR QR HO OPS
  go_wp2
  go_ret
  exact⟨rfl,HB2.out⟩
end Go.Proofs.YtbomggfklfbnkaaGreatDoor
