import Derived.Test.YtbomggfklfbnkaaGreatDoorKTrkH
import Derived.Test.YtbomggfklfbnkaaGreatDoorKRpts
import Derived.Test.YtbomggfklfbnkaaGreatDoorKChain
import Derived.Test.YtbomggfklfbnkaaGreatDoorKRegion
import Derived.Test.YtbomggfklfbnkaaGreatDoorFromL
import Derived.Deep.CutBlock
set_option maxRecDepth 100000
set_option maxHeartbeats 8000000
set_option linter.unusedSimpArgs false
set_option linter.unusedVariables false
namespace Go.Bfs
theorem step_len (u:Nat) (s:St) (v:Nat):s.2.length≤(step u s v).2.length:=by
 unfold step
 split
 ·simp
 ·exact Nat.le_refl _
theorem fold_len (u:Nat):∀ (row:List Nat) (s:St),s.2.length≤(row.foldl (step u) s).2.length
 |[],s=>Nat.le_refl _
 |v :: row,s=>Nat.le_trans (step_len u s v) (fold_len u row (step u s v))
theorem ends {nb:Nat→List Nat} {a N:Nat} (ha:a < N) (hr:∀ u,u < N→∀ v∈nb u,v < N):∃ i,(st nb a i).2.length=i:=by
 refine Classical.byContradiction fun hex=>?_
 have hne:∀ i,(st nb a i).2.length≠i:=fun i h=>hex ⟨i,h⟩
 have hlt:∀ i,i < (st nb a i).2.length:=by
  intro i
  induction i with
  |zero=>exact Nat.pos_of_ne_zero (hne 0)
  |succ i ih=>
   have e:(st nb a i).2[i]?=some (st nb a i).2[i]:=List.getElem?_eq_getElem ih
   have h1:=fold_len ((st nb a i).2[i]) (nb ((st nb a i).2[i])) (st nb a i)
   rw[←st_next e] at h1
   have:=hne (i+1)
   omega
 have hI:=st_inv ha hr N (Nat.le_of_lt (hlt N))
 have:=nodup_le hI.nodup hI.lt
 have:=hlt N
 omega
end Go.Bfs
namespace Go.Proofs.YtbomggfklfbnkaaGreatDoor
open Go.RowKit Go.Grid Go.Maps Go.Sort Go.Shelf
theorem searched {n a:Nat} (h1:1≤n) (h8:n≤8) (ha:a < (nodesL n).length):Searched n a:=Bfs.ends ha (nbG_lt h1 h8)
theorem hopN_bd {p q:Pl} (hp:p.Ok) (hq:q.Ok):0≤hopN p q∧hopN p q < 642:=by
 unfold hopN
 split
 ·exact⟨Int.le_refl _,by omega⟩
 ·exact hop_bd (by omega) (by omega) (nearN_lt hp) (nearN_lt hq) (searched (by omega) (by omega) (nearN_lt hp))
theorem hopN_eq {p q:Pl} (hp:p.Ok):hopN p q=hop 8 (nearN p) (nearN q):=by
 unfold hopN
 split
 ·rename_i h
  subst h
  exact ((hop_zero (by omega) (by omega) (nearN_lt hp) (nearN_lt hp) (searched (by omega) (by omega) (nearN_lt hp))).2 rfl).symm
 ·rfl
def plOf (r:Rep):Pl:=⟨r.f.toNat,r.a.toNat,r.b.toNat,r.c.toNat⟩
theorem ValR.pl {r:Rep} (h:ValR r):(plOf r).Ok∧r.f=(plOf r).f∧r.a=(plOf r).a∧r.b=(plOf r).b∧r.c=(plOf r).c:=by
 obtain⟨⟨h1,h2,h3,h4,h5,h6⟩,_⟩:=h
 exact⟨⟨by show r.f.toNat < 20;omega,by show r.a.toNat+r.b.toNat+r.c.toNat=840;omega⟩,by show r.f=(r.f.toNat:Int);omega,by show r.a=(r.a.toNat:Int);omega,by show r.b=(r.b.toNat:Int);omega,by show r.c=(r.c.toNat:Int);omega⟩
noncomputable def plB (n:Int) (r s:Rep):Bool:=decide (r.time < s.time∧1440*hopN (plOf r) (plOf s)≤n*(s.time-r.time)+1440)
structure PCell (w:World) (b:Nat) (p:Pl):Prop where
 c3:w.cell? ⟨b,3,none⟩=some (.int .i64 p.f)
 c4:w.cell? ⟨b,4,none⟩=some (.int .i64 p.a)
 c5:w.cell? ⟨b,5,none⟩=some (.int .i64 p.b)
 c6:w.cell? ⟨b,6,none⟩=some (.int .i64 p.c)
theorem PCell.of_block {w w':World} {b:Nat} {p:Pl} (h:PCell w b p) (hb:w'.heap[b]?=w.heap[b]?):PCell w' b p:=
 ⟨(World.cell?_of_block hb).trans h.c3,(World.cell?_of_block hb).trans h.c4,(World.cell?_of_block hb).trans h.c5,(World.cell?_of_block hb).trans h.c6⟩
theorem plaus_any (g m:Nat) (X:Nat→Prop) (n:Int) (hn0:0≤n) (hn1:n≤1000) (r s:Rep) (hr:RdOk r) (hs:RdOk s) (hvr:ValR r) (hvs:ValR s) (w:World) (hT:HasTab w) (hX0:X 0) (hF:FieldAt w g m X) (hm:m≤1000000) :
  Calls Tryz.prog 45 #[.pointer (some ⟨g,0,none⟩),rpv r,rpv s,.int .i64 n] w fun e w'=>e=.returned (.bool (plB n r s))∧FieldAt w' g (m+1) X∧Kept w w' X:=by
 obtain⟨hpo,e1,e2,e3,e4⟩:=hvr.pl
 obtain⟨hqo,e5,e6,e7,e8⟩:=hvs.pl
 obtain⟨_,ht0,ht1⟩:=hvr
 obtain⟨_,hu0,hu1⟩:=hvs
 have HB:Hid (plB n r s=decide (r.time < s.time∧1440*hopN (plOf r) (plOf s)≤n*(s.time-r.time)+1440)):=zN rfl
 obtain⟨h,hh⟩:∃ h,h=hopN (plOf r) (plOf s):=⟨_,rfl⟩
 obtain⟨hb0,hb1⟩:=hopN_bd hpo hqo
 rw[←hh] at hb0 hb1
 have HH:=zN hh
 clear hh
 obtain⟨bb,hbb⟩:∃ bb,bb=plB n r s:=⟨_,rfl⟩
 rw[←hbb] at HB ⊢
 obtain⟨p,hp⟩:∃ p,p=plOf r:=⟨_,rfl⟩
 obtain⟨q,hq⟩:∃ q,q=plOf s:=⟨_,rfl⟩
 rw[←hp] at HH HB hpo e1 e2 e3 e4
 rw[←hq] at HH HB hqo e5 e6 e7 e8
 rw[←HH.out] at HB
 clear hp hq hbb
 obtain⟨k,nm,t,f,a,b,c,rd⟩:=r
 obtain⟨k',nm',t',f',a',b',c',rd'⟩:=s
 obtain⟨pr,nr,cpr,hrd⟩:=hr
 obtain⟨pr',nr',cpr',hrd'⟩:=hs
 dsimp only at *
 subst hrd hrd' e1 e2 e3 e4 e5 e6 e7 e8
 have HPO:=zN hpo
 have HQO:=zN hqo
 have HT:=zN hT
 have HF:=zN hF
 have hgl:=hF.lt
 have hb:Below w.heap.size w ((w.alloc (.cells #[.int .i64 k,.string nm,.int .i64 t,.int .i64 p.f,.int .i64 p.a,.int .i64 p.b,.int .i64 p.c,.slice pr nr cpr] 35)).alloc (.cells #[.int .i64 k',.string nm',.int .i64 t',.int .i64 q.f,.int .i64 q.a,.int .i64 q.b,.int .i64 q.c,.slice pr' nr' cpr'] 35)):=(by repeat (first|(with_reducible first|assumption|exact zBr _ _|refine zBs ?_ (by first|omega|(simp<;>omega)) _|refine zBa ?_ (by first|omega|(simp<;>omega)) _|apply zBd)|assumption))
 have HBB:=zN hb
 have hpv:Hid (pv p=.agg #[.int .i64 p.f,.int .i64 p.a,.int .i64 p.b,.int .i64 p.c]):=zN rfl
 have hqv:Hid (pv q=.agg #[.int .i64 q.f,.int .i64 q.a,.int .i64 q.b,.int .i64 q.c]):=zN rfl
 clear hpo hqo hT hF hb
 unfold rpv
 dsimp only
 have hF1:=HF.out.below HBB.out (X':=fun b=>X b∨b=w.heap.size∨b=w.heap.size+1) (fun b hx=>by
  rcases hx with h|h|h
  ·exact⟨.inl h,Nat.lt_of_lt_of_le (HF.out.xl b h) HBB.out.size⟩
  ·exact⟨.inr (by omega),by subst h;simp<;>omega⟩
  ·exact⟨.inr (by omega),by subst h;simp<;>omega⟩)
 have hK1:=Kept.of_below HBB.out HF.out.xl
 have HT1:=zN (HT.out.below HBB.out)
 have HX0:Hid (X 0):=zN hX0
 have hsz:((w.alloc (.cells #[.int .i64 k,.string nm,.int .i64 t,.int .i64 p.f,.int .i64 p.a,.int .i64 p.b,.int .i64 p.c,.slice pr nr cpr] 35)).alloc (.cells #[.int .i64 k',.string nm',.int .i64 t',.int .i64 q.f,.int .i64 q.a,.int .i64 q.b,.int .i64 q.c,.slice pr' nr' cpr'] 35)).heap.size=w.heap.size+2:=by simp
 have hCP:((w.alloc (.cells #[.int .i64 k,.string nm,.int .i64 t,.int .i64 p.f,.int .i64 p.a,.int .i64 p.b,.int .i64 p.c,.slice pr nr cpr] 35)).alloc (.cells #[.int .i64 k',.string nm',.int .i64 t',.int .i64 q.f,.int .i64 q.a,.int .i64 q.b,.int .i64 q.c,.slice pr' nr' cpr'] 35)).cell? ⟨w.heap.size,2,none⟩=some (.int .i64 t)∧((w.alloc (.cells #[.int .i64 k,.string nm,.int .i64 t,.int .i64 p.f,.int .i64 p.a,.int .i64 p.b,.int .i64 p.c,.slice pr nr cpr] 35)).alloc (.cells #[.int .i64 k',.string nm',.int .i64 t',.int .i64 q.f,.int .i64 q.a,.int .i64 q.b,.int .i64 q.c,.slice pr' nr' cpr'] 35)).cell? ⟨w.heap.size+1,2,none⟩=some (.int .i64 t')∧PCell ((w.alloc (.cells #[.int .i64 k,.string nm,.int .i64 t,.int .i64 p.f,.int .i64 p.a,.int .i64 p.b,.int .i64 p.c,.slice pr nr cpr] 35)).alloc (.cells #[.int .i64 k',.string nm',.int .i64 t',.int .i64 q.f,.int .i64 q.a,.int .i64 q.b,.int .i64 q.c,.slice pr' nr' cpr'] 35)) w.heap.size p∧PCell ((w.alloc (.cells #[.int .i64 k,.string nm,.int .i64 t,.int .i64 p.f,.int .i64 p.a,.int .i64 p.b,.int .i64 p.c,.slice pr nr cpr] 35)).alloc (.cells #[.int .i64 k',.string nm',.int .i64 t',.int .i64 q.f,.int .i64 q.a,.int .i64 q.b,.int .i64 q.c,.slice pr' nr' cpr'] 35)) (w.heap.size+1) q:=⟨(by simp[zO,zJ,zQ]),(by simp[zO,zJ,zQ]),⟨(by simp[zO,zJ,zQ]),(by simp[zO,zJ,zQ]),(by simp[zO,zJ,zQ]),(by simp[zO,zJ,zQ])⟩,⟨(by simp[zO,zJ,zQ]),(by simp[zO,zJ,zQ]),(by simp[zO,zJ,zQ]),(by simp[zO,zJ,zQ])⟩⟩
 have HF1:=zN hF1
 have HK1:=zN hK1
 have HCP:=zN hCP
 clear hF1 hK1 hCP hX0
 by_cases hlt:t < t'
 ·have hdl:decide (t < t')=true:=zDt hlt
  go_enter Tryz.func45,Tryz.ntmps45
  go_wp2_with fail
  obtain⟨P,hP⟩:∃ P,P=w.heap.size:=⟨_,rfl⟩
  rw[←hP] at HCP hsz HF1 ⊢
  clear hP HT HF HBB
  generalize ((w.alloc (.cells #[.int .i64 k,.string nm,.int .i64 t,.int .i64 p.f,.int .i64 p.a,.int .i64 p.b,.int .i64 p.c,.slice pr nr cpr] 35)).alloc (.cells #[.int .i64 k',.string nm',.int .i64 t',.int .i64 q.f,.int .i64 q.a,.int .i64 q.b,.int .i64 q.c,.slice pr' nr' cpr'] 35))=wx at *
  have hSS0:=HCP.out
  have hSS:wx.drew.cell? ⟨P,2,none⟩=some (.int .i64 t)∧wx.drew.cell? ⟨P+1,2,none⟩=some (.int .i64 t')∧PCell wx.drew P p∧PCell wx.drew (P+1) q:=⟨hSS0.1,hSS0.2.1,hSS0.2.2.1.of_block rfl,hSS0.2.2.2.of_block rfl⟩
  clear hSS0
  have hle:Hid (1440*h≤n*(t'-t)+1440↔bb=true):=zN (by rw[HB.out,decide_eq_true_eq];exact⟨fun h=>⟨hlt,h⟩,fun h=>h.2⟩)
  have hd1:0≤t'-t:=by omega
  have hd2:t'-t≤52595999:=by omega
  have hm1:0≤n*(t'-t):=Int.mul_nonneg hn0 hd1
  have hm2:n*(t'-t)≤1000*52595999:=Int.mul_le_mul hn1 hd2 hd1 (by omega)
  refine RX.region RX.fN (fun w'=>w'.cell? ⟨P,2,none⟩=some (.int .i64 t)∧w'.cell? ⟨P+1,2,none⟩=some (.int .i64 t')∧PCell w' P p∧PCell w' (P+1) q) (by kernel_rfl) (by kernel_rfl) (hSS) (fun OPS HO QR hQR=>?_)
  repeat (refine zeX (fun R hR=>?_);(first|refine zaX (by first|rfl|(rw[HO.out];rfl)) (by simp only[zA,zB,zC,zD];rfl) ?_|refine zbX (by first|rfl|(rw[HO.out];rfl)) rfl (by first|exact .inl rfl|exact .inr rfl) (by simp only[zE,zF,zG,zH];rfl) (by simp only[zA,zB,zC,zD];rfl) ?_|refine zcX (by first|rfl|(rw[HO.out];rfl)) rfl rfl (by simp only[zE,zF,zG,zH];rfl) (by simp only[zA,zB,zC,zD];rfl) ?_|(refine zdX (by first|rfl|(rw[HO.out];rfl)) rfl rfl rfl ?_;apply zEx;apply zEx;refine⟨fun w' hS K hK=>?_,?_,?_⟩;(focus (obtain⟨s0,s1,⟨s2,s3,s4,s5⟩,⟨s6,s7,s8,s9⟩⟩:=hS;go_wp2;exact hK _ _ (by simp only[zl,zG,zH];first|exact zf (by omega)|exact zg (by omega)|exact zh (by omega)|exact zi (by omega)|exact zj (by omega)|exact zk (by omega)|exact RX.bneB _|rfl) rfl));(focus (simp only[zA,zB,zC,zD];rfl))));refine hR _ _ ?_;clear hR R)
  refine zeX (fun R hR=>?_)
  refine zgX (by first|rfl|(rw[HO.out];rfl)) rfl (fun K hK=>?_)
  go_wp2_with fail
  rw[←hpv.out,←hqv.out]
  have hbd:Below wx.heap.size wx wx.drew:=zBd (zBr _ _)
  refine (hops_any g m _ p q HPO.out HQO.out wx.drew (HT1.out.below hbd) (.inl HX0.out) (HF1.out.below hbd (X':=fun b=>X b∨b=P∨b=P+1) (fun b hx=>⟨.inl hx,HF1.out.xl b hx⟩)) hm).mono ?_
  rintro e w3 ⟨rfl,hf3,hk3,_⟩
  rw[←HH.out]
  have HF3:=zN (hf3.less (X':=X) (fun b hx=>.inl hx))
  have HK3:Hid (Kept wx w3 X):=zN (((Kept.of_below hbd HF1.out.xl).trans hk3 (fun _ h=>h)).mono (fun b hx=>.inl hx))
  have hSS3:w3.cell? ⟨P,2,none⟩=some (.int .i64 t)∧w3.cell? ⟨P+1,2,none⟩=some (.int .i64 t')∧PCell w3 P p∧PCell w3 (P+1) q:=
   ⟨hk3.cell hSS.1 (.inr (.inl rfl)),hk3.cell hSS.2.1 (.inr (.inr rfl)),hSS.2.2.1.of_block (hk3.block _ (.inr (.inl rfl))),hSS.2.2.2.of_block (hk3.block _ (.inr (.inr rfl)))⟩
  clear hf3 hk3 hSS hbd
  refine hK _ _ ⟨hSS3,hR _ _ ?_⟩;clear hK K hR R
  repeat (refine zeX (fun R hR=>?_);(first|refine zaX (by first|rfl|(rw[HO.out];rfl)) (by simp only[zA,zB,zC,zD];rfl) ?_|refine zbX (by first|rfl|(rw[HO.out];rfl)) rfl (by first|exact .inl rfl|exact .inr rfl) (by simp only[zE,zF,zG,zH];rfl) (by simp only[zA,zB,zC,zD];rfl) ?_|refine zcX (by first|rfl|(rw[HO.out];rfl)) rfl rfl (by simp only[zE,zF,zG,zH];rfl) (by simp only[zA,zB,zC,zD];rfl) ?_|(refine zdX (by first|rfl|(rw[HO.out];rfl)) rfl rfl rfl ?_;apply zEx;apply zEx;refine⟨fun w' hS K hK=>?_,?_,?_⟩;(focus (obtain⟨s0,s1,⟨s2,s3,s4,s5⟩,⟨s6,s7,s8,s9⟩⟩:=hS;go_wp2;exact hK _ _ (by simp only[zl,zG,zH];first|exact zf (by omega)|exact zg (by omega)|exact zh (by omega)|exact zi (by omega)|exact zj (by omega)|exact zk (by omega)|exact RX.bneB _|rfl) rfl));(focus (simp only[zA,zB,zC,zD];rfl))));refine hR _ _ ?_;clear hR R)
  refine RX.wpL_nil (hQR _ _ (hSS3) ?_);clear hQR QR HO OPS
  go_wp2
  go_ret
  refine⟨congrArg (fun b=>Ending.returned (Value.bool b)) (Bool.eq_iff_iff.2 (by rw[decide_eq_true_eq];exact hle.out)),HF3.out,HK1.out.trans HK3.out (fun _ h=>h)⟩
 ·have hdl:decide (t < t')=false:=zDf hlt
  have hbf:bb=false:=by rw[HB.out];exact zDf (fun e=>hlt e.1)
  have hF2:=HF.out.below HBB.out (X':=X) (fun b hx=>⟨.inl hx,Nat.lt_of_lt_of_le (HF.out.xl b hx) HBB.out.size⟩)
  have HF2:=zN hF2.more
  clear HF1 hF2 hsz
  go_enter Tryz.func45,Tryz.ntmps45
  go_wp2_with fail
  generalize ((w.alloc (.cells #[.int .i64 k,.string nm,.int .i64 t,.int .i64 p.f,.int .i64 p.a,.int .i64 p.b,.int .i64 p.c,.slice pr nr cpr] 35)).alloc (.cells #[.int .i64 k',.string nm',.int .i64 t',.int .i64 q.f,.int .i64 q.a,.int .i64 q.b,.int .i64 q.c,.slice pr' nr' cpr'] 35))=wx at *
  have s0:=HCP.out.1
  have s1:=HCP.out.2.1
  refine RX.region RX.fN (fun w'=>w'=_) (by kernel_rfl) (by kernel_rfl) rfl (fun OPS HO QR hQR=>?_)
  repeat (refine zeX (fun R hR=>?_);(first|refine zaX (by first|rfl|(rw[HO.out];rfl)) (by simp only[zA,zB,zC,zD];rfl) ?_|refine zbX (by first|rfl|(rw[HO.out];rfl)) rfl (by first|exact .inl rfl|exact .inr rfl) (by simp only[zE,zF,zG,zH];rfl) (by simp only[zA,zB,zC,zD];rfl) ?_|refine zcX (by first|rfl|(rw[HO.out];rfl)) rfl rfl (by simp only[zE,zF,zG,zH];rfl) (by simp only[zA,zB,zC,zD];rfl) ?_|(refine zdX (by first|rfl|(rw[HO.out];rfl)) rfl rfl rfl ?_;apply zEx;apply zEx;refine⟨fun w' hS K hK=>?_,?_,?_⟩;(focus (subst hS;go_wp2;exact hK _ _ (by simp only[zl,zG,zH];first|exact zf (by omega)|exact zg (by omega)|exact zh (by omega)|exact zi (by omega)|exact zj (by omega)|exact zk (by omega)|exact RX.bneB _|rfl) rfl));(focus (simp only[zA,zB,zC,zD];rfl))));refine hR _ _ ?_;clear hR R)
  refine RX.wpL_nil (hQR _ _ rfl ?_);clear hQR QR HO OPS
  go_wp2
  go_ret
  subst hbf
  exact⟨rfl,HF2.out.below (zBd (zBr _ _)) (fun b hx=>⟨.inl hx,HF2.out.xl b hx⟩),HK1.out.trans (Kept.of_below (zBd (zBr _ _)) HF2.out.xl) (fun _ h=>h)⟩
theorem FieldAt.new (w:World):FieldAt (w.alloc (.cells #[.pointer none,.map none] 69)) w.heap.size 0 (fun b=>b < w.heap.size):=
 ⟨fun j=>by simp[RX.frozen_alloc],by simp,by simp,fun b hb=>by simp;omega,.inl ⟨(by simp[zO,zJ,zQ]),(by simp[zO,zJ,zQ])⟩⟩
structure RC (B:Nat) (w:World) (k:Int) (nm:ByteArray) (t f a b c:Int) (p:Option Addr) (n cp:Nat):Prop where
 c0:w.cell? ⟨B,0,none⟩=some (.int .i64 k)
 c1:w.cell? ⟨B,1,none⟩=some (.string nm)
 c2:w.cell? ⟨B,2,none⟩=some (.int .i64 t)
 c3:w.cell? ⟨B,3,none⟩=some (.int .i64 f)
 c4:w.cell? ⟨B,4,none⟩=some (.int .i64 a)
 c5:w.cell? ⟨B,5,none⟩=some (.int .i64 b)
 c6:w.cell? ⟨B,6,none⟩=some (.int .i64 c)
 c7:w.cell? ⟨B,7,none⟩=some (.slice p n cp)
noncomputable def plausB (n:Int) (r s:Rep):Bool:=hopB n && decide (ValR r) && decide (ValR s) && plB n r s
theorem Plausible_any (n:Int) (r s:Rep) (hr:RdOk r) (hs:RdOk s) (w:World) (hT:HasTab w) :
  Calls Tryz.prog 19 #[rpv r,rpv s,.int .i64 n] w fun e w'=>e=.returned (.bool (plausB n r s))∧Below w.heap.size w w':=by
 have HR:=zN hr
 have HS:=zN hs
 have HT:=zN hT
 have hT0:=hT.lt
 obtain⟨k,nm,t,f,a,b,c,rd⟩:=r
 obtain⟨k',nm',t',f',a',b',c',rd'⟩:=s
 obtain⟨pr,nr,cpr,hrd⟩:=hr
 obtain⟨pr',nr',cpr',hrd'⟩:=hs
 dsimp only at hrd hrd'
 subst hrd hrd'
 have hrv:Hid (rpv ⟨k,nm,t,f,a,b,c,.slice pr nr cpr⟩=.agg #[.int .i64 k,.string nm,.int .i64 t,.int .i64 f,.int .i64 a,.int .i64 b,.int .i64 c,.slice pr nr cpr]):=zN rfl
 have hsv:Hid (rpv ⟨k',nm',t',f',a',b',c',.slice pr' nr' cpr'⟩=.agg #[.int .i64 k',.string nm',.int .i64 t',.int .i64 f',.int .i64 a',.int .i64 b',.int .i64 c',.slice pr' nr' cpr']):=zN rfl
 rw[hrv.out,hsv.out]
 obtain⟨R,hR⟩:∃ R:Rep,R=⟨k,nm,t,f,a,b,c,.slice pr nr cpr⟩:=⟨_,rfl⟩
 obtain⟨S,hS⟩:∃ S:Rep,S=⟨k',nm',t',f',a',b',c',.slice pr' nr' cpr'⟩:=⟨_,rfl⟩
 rw[←hR] at HR hrv ⊢
 rw[←hS] at HS hsv ⊢
 clear hT hR hS
 obtain⟨bb,hbb⟩:∃ bb,bb=plausB n R S:=⟨_,rfl⟩
 rw[←hbb]
 have HB:Hid (bb=(hopB n && decide (ValR R) && decide (ValR S) && plB n R S)):=zN hbb
 clear hbb
 have hb:Below w.heap.size w ((w.alloc (.cells #[.int .i64 k,.string nm,.int .i64 t,.int .i64 f,.int .i64 a,.int .i64 b,.int .i64 c,.slice pr nr cpr] 35)).alloc (.cells #[.int .i64 k',.string nm',.int .i64 t',.int .i64 f',.int .i64 a',.int .i64 b',.int .i64 c',.slice pr' nr' cpr'] 35)):=(by repeat (first|(with_reducible first|assumption|exact zBr _ _|refine zBs ?_ (by first|omega|(simp<;>omega)) _|refine zBa ?_ (by first|omega|(simp<;>omega)) _|apply zBd)|assumption))
 have hb2:Below (w.alloc (.cells #[.int .i64 k,.string nm,.int .i64 t,.int .i64 f,.int .i64 a,.int .i64 b,.int .i64 c,.slice pr nr cpr] 35)).heap.size (w.alloc (.cells #[.int .i64 k,.string nm,.int .i64 t,.int .i64 f,.int .i64 a,.int .i64 b,.int .i64 c,.slice pr nr cpr] 35)) ((w.alloc (.cells #[.int .i64 k,.string nm,.int .i64 t,.int .i64 f,.int .i64 a,.int .i64 b,.int .i64 c,.slice pr nr cpr] 35)).alloc (.cells #[.int .i64 k',.string nm',.int .i64 t',.int .i64 f',.int .i64 a',.int .i64 b',.int .i64 c',.slice pr' nr' cpr'] 35)):=(zBr _ _).alloc (Nat.le_refl _) _
 have hW1:=(RptW.new w ⟨k,nm,t,f,a,b,c,.slice pr nr cpr⟩).below hb2
 have hW2:=RptW.new (w.alloc (.cells #[.int .i64 k,.string nm,.int .i64 t,.int .i64 f,.int .i64 a,.int .i64 b,.int .i64 c,.slice pr nr cpr] 35)) ⟨k',nm',t',f',a',b',c',.slice pr' nr' cpr'⟩
 rw[show (w.alloc (.cells #[.int .i64 k,.string nm,.int .i64 t,.int .i64 f,.int .i64 a,.int .i64 b,.int .i64 c,.slice pr nr cpr] 35)).heap.size=w.heap.size+1 by simp] at hW2
 have HW1:Hid (RC w.heap.size ((w.alloc (.cells #[.int .i64 k,.string nm,.int .i64 t,.int .i64 f,.int .i64 a,.int .i64 b,.int .i64 c,.slice pr nr cpr] 35)).alloc (.cells #[.int .i64 k',.string nm',.int .i64 t',.int .i64 f',.int .i64 a',.int .i64 b',.int .i64 c',.slice pr' nr' cpr'] 35)) k nm t f a b c pr nr cpr):=zN ⟨hW1.c0,hW1.c1,hW1.c2,hW1.c3,hW1.c4,hW1.c5,hW1.c6,hW1.c7⟩
 have HW2:Hid (RC (w.heap.size+1) ((w.alloc (.cells #[.int .i64 k,.string nm,.int .i64 t,.int .i64 f,.int .i64 a,.int .i64 b,.int .i64 c,.slice pr nr cpr] 35)).alloc (.cells #[.int .i64 k',.string nm',.int .i64 t',.int .i64 f',.int .i64 a',.int .i64 b',.int .i64 c',.slice pr' nr' cpr'] 35)) k' nm' t' f' a' b' c' pr' nr' cpr'):=zN ⟨hW2.c0,hW2.c1,hW2.c2,hW2.c3,hW2.c4,hW2.c5,hW2.c6,hW2.c7⟩
 have hsz:((w.alloc (.cells #[.int .i64 k,.string nm,.int .i64 t,.int .i64 f,.int .i64 a,.int .i64 b,.int .i64 c,.slice pr nr cpr] 35)).alloc (.cells #[.int .i64 k',.string nm',.int .i64 t',.int .i64 f',.int .i64 a',.int .i64 b',.int .i64 c',.slice pr' nr' cpr'] 35)).heap.size=w.heap.size+2:=by simp
 have HBW:=zN hb
 have HT2:=zN (HT.out.below hb)
 clear hb hb2 hW1 hW2 HT
 go_enter Tryz.func19,Tryz.ntmps19
 go_wp2_with fail
 generalize ((w.alloc (.cells #[.int .i64 k,.string nm,.int .i64 t,.int .i64 f,.int .i64 a,.int .i64 b,.int .i64 c,.slice pr nr cpr] 35)).alloc (.cells #[.int .i64 k',.string nm',.int .i64 t',.int .i64 f',.int .i64 a',.int .i64 b',.int .i64 c',.slice pr' nr' cpr'] 35))=w1 at *
 refine (hopping_any n w1).mono ?_
 rintro e w1' ⟨rfl,rfl⟩
 cases hh:hopB n
 ·have hbf:bb=false:=by rw[HB.out,hh];rfl
  subst hbf
  go_wp2
  go_ret
  exact⟨rfl,HBW.out⟩
 obtain⟨hn0,hn1⟩:0≤n∧n≤1000:=by unfold hopB at hh;exact of_decide_eq_true hh
 have HH:=zN hh
 clear hh
 obtain⟨c0,c1,c2,c3,c4,c5,c6,c7⟩:=HW1.out
 go_wp2_with fail
 rw[←hrv.out]
 refine (placed_any R HR.out w1).mono ?_
 rintro e w2 ⟨rfl,hb2⟩
 cases hvr:decide (ValR R)
 ·have hbf:bb=false:=by rw[HB.out,hvr,Bool.and_false];rfl
  subst hbf
  have HB2:=zN (HBW.out.trans (hb2.mono HBW.out.size))
  clear hb2
  go_wp2
  go_ret
  exact⟨rfl,HB2.out⟩
 have HVR:Hid (ValR R):=zN (of_decide_eq_true hvr)
 have HVB:=zN hvr
 obtain⟨d0,d1,d2,d3,d4,d5,d6,d7⟩:=HW2.out
 have key:∀ {b j u},w1.cell? ⟨b,j,none⟩=some u→w2.cell? ⟨b,j,none⟩=some u:=fun h=>zP hb2 h
 replace c0:=key c0
 replace c1:=key c1
 replace c2:=key c2
 replace c3:=key c3
 replace c4:=key c4
 replace c5:=key c5
 replace c6:=key c6
 replace c7:=key c7
 replace d0:=key d0
 replace d1:=key d1
 replace d2:=key d2
 replace d3:=key d3
 replace d4:=key d4
 replace d5:=key d5
 replace d6:=key d6
 replace d7:=key d7
 have HB2:=zN hb2
 clear hb2 hvr HW1 HW2 key
 go_wp2_with fail
 rw[←hsv.out]
 refine (placed_any S HS.out w2).mono ?_
 rintro e w3 ⟨rfl,hb3⟩
 cases hvs:decide (ValR S)
 ·have hbf:bb=false:=by rw[HB.out,hvs,Bool.and_false];rfl
  subst hbf
  have HB3:=zN (HBW.out.trans ((HB2.out.trans (hb3.mono HB2.out.size)).mono HBW.out.size))
  clear hb3
  go_wp2
  go_ret
  exact⟨rfl,HB3.out⟩
 have HVS:Hid (ValR S):=zN (of_decide_eq_true hvs)
 have HVB2:=zN hvs
 have key:∀ {b j u},w2.cell? ⟨b,j,none⟩=some u→w3.cell? ⟨b,j,none⟩=some u:=fun h=>zP hb3 h
 replace c0:=key c0
 replace c1:=key c1
 replace c2:=key c2
 replace c3:=key c3
 replace c4:=key c4
 replace c5:=key c5
 replace c6:=key c6
 replace c7:=key c7
 replace d0:=key d0
 replace d1:=key d1
 replace d2:=key d2
 replace d3:=key d3
 replace d4:=key d4
 replace d5:=key d5
 replace d6:=key d6
 replace d7:=key d7
 have HB3:=zN (HB2.out.trans (hb3.mono HB2.out.size))
 have hl1:w.heap.size < w3.heap.size:=by have:=HB3.out.size;omega
 have hl2:w.heap.size+1 < w3.heap.size:=by have:=HB3.out.size;omega
 have hn3:¬ w.heap.size=w3.heap.size:=by omega
 have hn4:¬ w.heap.size+1=w3.heap.size:=by omega
 clear hb3 hvs key HB2 hsz
 go_wp2_with fail
 rw[←hrv.out,←hsv.out]
 have hba:Below w3.heap.size w3 (w3.alloc (.cells #[.pointer none,.map none] 69)):=(zBr _ _).alloc (Nat.le_refl _) _
 have hF:FieldAt (w3.alloc (.cells #[.pointer none,.map none] 69)) w3.heap.size 0 (fun b=>b < w3.heap.size):=FieldAt.new w3
 refine (plaus_any w3.heap.size 0 _ n hn0 hn1 R S HR.out HS.out HVR.out HVS.out _ (HT2.out.below (HB3.out.trans (hba.mono HB3.out.size))) (by show 0 < w3.heap.size;have:=HB3.out.size;omega) hF (by omega)).mono ?_
 rintro e w4 ⟨rfl,_,hk4⟩
 have hb4:Below w3.heap.size w3 w4:=hba.trans (hk4.below (fun i h=>h))
 have HB4:=zN (HBW.out.trans ((HB3.out.trans (hb4.mono HB3.out.size)).mono HBW.out.size))
 clear hk4 hb4 hba hF c0 c1 c2 c3 c4 c5 c6 c7 d0 d1 d2 d3 d4 d5 d6 d7
 have hpb:bb=plB n R S:=by rw[HB.out,HH.out,HVB.out,HVB2.out];rfl
 rw[←hpb]
 clear hpb
 go_wp2
 go_ret
 exact⟨rfl,HB4.out⟩
open Go.RowKit Go.Grid Go.Maps Go.Sort Go.Shelf Go.Chain
def rep0:Rep:=⟨0,⟨#[]⟩,0,0,0,0,0,.slice none 0 0⟩
noncomputable def relP (n:Int) (l:List Rep) (i k:Nat):Bool:=plB n (l.getD i rep0) (l.getD k rep0)
theorem relP_eq {n:Int} {l:List Rep} {i k:Nat} (hi:i < l.length) (hk:k < l.length):relP n l i k=plB n l[i] l[k]:=by
 unfold relP
 rw[List.getD_eq_getElem?_getD,List.getElem?_eq_getElem hi,List.getD_eq_getElem?_getD,List.getElem?_eq_getElem hk];rfl
theorem FieldAt.upto {w:World} {g n n':Nat} {X:Nat→Prop} (h:FieldAt w g n X) (hn:n≤n'):FieldAt w g n' X:=by
 refine⟨h.fr,h.lt,h.ng,h.xl,?_⟩
 rcases h.st with h1|⟨m,N,c0,c1,k,h2,h3,h4,D,h5,h6⟩
 ·exact .inl h1
 ·exact .inr ⟨m,N,c0,c1,k,h2,h3,h4,D,h5.mono hn,h6⟩
theorem QRow.nil (w:World) (base:Nat):QRow w base (.slice none 0 0) []:=World.ownsRow_nil _ _ _ _
theorem two_rows (w:World) (M:Nat):FRow ((w.alloc (.cells (madeCells #[.int .i64 0] M) 3)).alloc (.cells (madeCells #[.int .i64 0] M) 3)) w.heap.size M (fun _=>0)∧FRow ((w.alloc (.cells (madeCells #[.int .i64 0] M) 3)).alloc (.cells (madeCells #[.int .i64 0] M) 3)) (w.heap.size+1) M (fun _=>0)∧Below w.heap.size w ((w.alloc (.cells (madeCells #[.int .i64 0] M) 3)).alloc (.cells (madeCells #[.int .i64 0] M) 3))∧((w.alloc (.cells (madeCells #[.int .i64 0] M) 3)).alloc (.cells (madeCells #[.int .i64 0] M) 3)).heap.size=w.heap.size+2:=by
 have h1:=FRow.made w M
 have h2:=FRow.made (w.alloc (.cells (madeCells #[.int .i64 0] M) 3)) M
 have e:(w.alloc (.cells (madeCells #[.int .i64 0] M) 3)).heap.size=w.heap.size+1:=by simp
 rw[e] at h2
 refine⟨h1.kept ?_,h2,((zBr w.heap.size w).alloc (Nat.le_refl _) _).alloc (by rw[e];omega) _,by simp⟩
 exact heap_alloc_old _ _ (by rw[e];omega)
structure CS (w wr:World) (g m:Nat) (X:Nat→Prop) (A B:Nat) (P:Nat→Nat→Bool) (M k c:Nat):Prop where
 a:FRow wr A M (fun j=>if k≤j then (lf P M j:Int) else 0)
 b:FRow wr B M (fun j=>if k≤j then optI (nx P M j) else 0)
 f:FieldAt wr g (m+c) (fun b=>X b∨b=A∨b=B)
 kp:Kept w wr X
theorem field_set {w wr:World} {g c:Nat} {X:Nat→Prop} {A B D i:Nat} {v:Value} (hF:FieldAt wr g c (fun b=>X b∨b=A∨b=B)) (hK:Kept w wr X) (hx:¬ X A∧¬ X B) (hD:D=A∨D=B) :
  FieldAt (wr.setCell ⟨D,i,none⟩ v) g c (fun b=>X b∨b=A∨b=B)∧Kept w (wr.setCell ⟨D,i,none⟩ v) X:=by
 constructor
 ·refine hF.turn (fun j _ hj=>Below.heap_setCell _ _ _ j (fun e=>hj ?_)) (by simp) (fun b hb=>⟨.inl hb,by simpa using hF.xl b hb⟩)
  have e':j=D:=e
  rcases hD with h|h
  ·exact .inr (.inl (e'.trans h))
  ·exact .inr (.inr (e'.trans h))
 ·refine⟨hK.os,hK.tape,hK.output,by simpa using hK.size,fun j hj=>(Below.heap_setCell _ _ _ j (fun e=>?_)).trans (hK.block j hj)⟩
  have e':j=D:=e
  rcases hD with h|h
  ·exact hx.1 (by rw[←h,←e'];exact hj)
  ·exact hx.2 (by rw[←h,←e'];exact hj)
structure CI (w wr:World) (g m:Nat) (X:Nat→Prop) (A B:Nat) (P:Nat→Nat→Bool) (M i k c:Nat):Prop where
 a:FRow wr A M (fun j=>if j=i then ((scanL P M i k).1:Int) else if i < j then (lf P M j:Int) else 0)
 b:FRow wr B M (fun j=>if j=i then optI (scanL P M i k).2 else if i < j then optI (nx P M j) else 0)
 f:FieldAt wr g (m+c) (fun b=>X b∨b=A∨b=B)
 kp:Kept w wr X
theorem FRow.oth {w:World} {b N D i:Nat} {f:Nat→Int} {v:Value} (h:FRow w b N f) (hne:b≠D):FRow (w.setCell ⟨D,i,none⟩ v) b N f:=h.kept (Below.heap_setCell _ _ _ b hne)
theorem CS.start {w wr:World} {g m:Nat} {X:Nat→Prop} {A B:Nat} {P:Nat→Nat→Bool} {M i c:Nat} (h:CS w wr g m X A B P M (i+1) c) (hx:¬ X A∧¬ X B) (hAB:A≠B) (hi:i < M) :
  CI w ((wr.setCell ⟨A,i,none⟩ (.int .i64 1)).setCell ⟨B,i,none⟩ (.int .i64 (-1))) g m X A B P M i M c:=by
 obtain⟨f1,k1⟩:=field_set (i:=i) (v:=.int .i64 1) h.f h.kp hx (.inl rfl)
 obtain⟨f2,k2⟩:=field_set (i:=i) (v:=.int .i64 (-1)) f1 k1 hx (.inr rfl)
 refine⟨((h.a.set i 1).oth hAB).ext fun j hj=>?_,((h.b.oth (Ne.symm hAB)).set i (-1)).ext fun j hj=>?_,f2,k2⟩
 ·rw[scan_end]
  dsimp only
  split
  ·rfl
  ·split<;>split<;>omega
 ·rw[scan_end]
  dsimp only
  split
  ·rfl
  ·split<;>split<;>first|rfl|omega
theorem CI.same {w wr:World} {g m:Nat} {X:Nat→Prop} {A B:Nat} {P:Nat→Nat→Bool} {M i k c:Nat} (h:CI w wr g m X A B P M i (k+1) c) (hk:k < M) (hn:¬ ((scanL P M i (k+1)).1≤lf P M k+1∧P i k=true)):CI w wr g m X A B P M i k c:=by
 have e:=scan_step P (L:=M) (i:=i) hk
 rw[if_neg hn] at e
 obtain⟨h1,h2,h3,h4⟩:=h
 rw[←e] at h1 h2
 exact⟨h1,h2,h3,h4⟩
theorem CI.put {w wr:World} {g m:Nat} {X:Nat→Prop} {A B:Nat} {P:Nat→Nat→Bool} {M i k c:Nat} (h:CI w wr g m X A B P M i (k+1) c) (hx:¬ X A∧¬ X B) (hAB:A≠B) (hk:k < M) (hn:(scanL P M i (k+1)).1≤lf P M k+1∧P i k=true) :
  CI w ((wr.setCell ⟨A,i,none⟩ (.int .i64 ((lf P M k:Int)+1))).setCell ⟨B,i,none⟩ (.int .i64 (k:Int))) g m X A B P M i k c:=by
 have e:=scan_step P (L:=M) (i:=i) hk
 rw[if_pos hn] at e
 obtain⟨f1,k1⟩:=field_set (i:=i) (v:=.int .i64 ((lf P M k:Int)+1)) h.f h.kp hx (.inl rfl)
 obtain⟨f2,k2⟩:=field_set (i:=i) (v:=.int .i64 (k:Int)) f1 k1 hx (.inr rfl)
 refine⟨((h.a.set i _).oth hAB).ext fun j hj=>?_,((h.b.oth (Ne.symm hAB)).set i _).ext fun j hj=>?_,f2,k2⟩
 ·rw[e]
  dsimp only
  split
  ·simp
  ·rfl
 ·rw[e]
  dsimp only
  split
  ·rfl
  ·rfl
theorem CI.fin {w wr:World} {g m:Nat} {X:Nat→Prop} {A B:Nat} {P:Nat→Nat→Bool} {M i c c':Nat} (h:CI w wr g m X A B P M i (i+1) c) (hi:i < M) (hc:c≤c'):CS w wr g m X A B P M i c':=by
 refine⟨h.a.ext fun j hj=>?_,h.b.ext fun j hj=>?_,h.f.upto (by omega),h.kp⟩
 ·rw[scan_len P hi]
  try dsimp only
  by_cases e:j=i
  ·subst e;rw[if_pos rfl,if_pos (Nat.le_refl _)]
  ·rw[if_neg e]
   by_cases e2:i < j
   ·rw[if_pos e2,if_pos (by omega)]
   ·rw[if_neg e2,if_neg (by omega)]
 ·try dsimp only
  by_cases e:j=i
  ·subst e;rw[if_pos rfl,if_pos (Nat.le_refl _)];rfl
  ·rw[if_neg e]
   by_cases e2:i < j
   ·rw[if_pos e2,if_pos (by omega)]
   ·rw[if_neg e2,if_neg (by omega)]
theorem CI.quiet {w wr:World} {g m:Nat} {X:Nat→Prop} {A B:Nat} {P:Nat→Nat→Bool} {M i k c c':Nat} (h:CI w wr g m X A B P M i k c) (hc:c≤c'):CI w wr.drew g m X A B P M i k c':=
 ⟨h.a.kept rfl,h.b.kept rfl,(h.f.below (zBd (zBr _ _)) (fun b hb=>⟨.inl hb,h.f.xl b hb⟩)).upto (by omega),⟨h.kp.os,h.kp.tape,h.kp.output,h.kp.size,h.kp.block⟩⟩
theorem CS.quiet {w wr:World} {g m:Nat} {X:Nat→Prop} {A B:Nat} {P:Nat→Nat→Bool} {M k c:Nat} (h:CS w wr g m X A B P M k c):CS w wr.drew g m X A B P M k c:=
 ⟨h.a.kept rfl,h.b.kept rfl,h.f.below (zBd (zBr _ _)) (fun b hb=>⟨.inl hb,h.f.xl b hb⟩),⟨h.kp.os,h.kp.tape,h.kp.output,h.kp.size,h.kp.block⟩⟩
theorem CI.move {w wr w':World} {g m:Nat} {X:Nat→Prop} {A B:Nat} {P:Nat→Nat→Bool} {M i k c:Nat} (h:CI w wr g m X A B P M i k c) (hf:FieldAt w' g (m+c+1) (fun b=>X b∨b=A∨b=B)) (hk:Kept wr w' (fun b=>X b∨b=A∨b=B)):CI w w' g m X A B P M i k (c+1):=
 ⟨h.a.kept (hk.block A (.inr (.inl rfl))),h.b.kept (hk.block B (.inr (.inr rfl))),hf,h.kp.trans hk (fun _ h=>.inl h)⟩
theorem gchain_any (g m:Nat) (X:Nat→Prop) (n:Int) (hn0:0≤n) (hn1:n≤1000) (p:Option Addr) (cap M:Nat) (l:List Rep) (hM:l.length=M) (hv:∀ r∈l,ValR r) (hL:M≤30) (w:World) (hT:HasTab w) (hX0:X 0) (hV:VecR w p l) (hXp:∀ a,p=some a→0 < M→X a.block) (hF:FieldAt w g m X) (hm:m≤900000) :
  Calls Tryz.prog 37 #[.pointer (some ⟨g,0,none⟩),.slice p M cap,.int .i64 n] w fun e w'=>∃ v,e=.returned v∧QRow w' w.heap.size v (chainP (relP n l) M)∧FieldAt w' g (m+930) (fun b=>X b∨v.ownBlock=some b)∧Kept w w' X:=by
 have hmk1:=run_make_row' (P:=Tryz.prog) 23 3 (.int .i64 0) 8 Tryz.underlying23 (by kernel_rfl) rfl .i64 .i64 M (by omega) (by omega)
 have HLN:=zN hM
 have HVR:=zN hv
 have HT:=zN hT
 have HV:=zN hV
 have HXP:=zN hXp
 have HF:=zN hF
 have HX0:Hid (X 0):=zN hX0
 have hgl:=hF.lt
 clear hM hv hT hV hXp hF hX0
 go_enter Tryz.func37,Tryz.ntmps37
 go_wp2_with fail
 go_cut [7,8] from 13 to 18 (fun v7 v8 wx=>∃ A B,v7=.slice (some ⟨A,0,none⟩) M M∧v8=.slice (some ⟨B,0,none⟩) M M∧A≠B∧w.heap.size≤A∧w.heap.size≤B∧A < wx.heap.size∧B < wx.heap.size∧FRow wx A M (fun _=>0)∧FRow wx B M (fun _=>0)∧Below w.heap.size w wx)
 case first=>
  refine RX.regionF2 RX.fN (fun _=>True) [[0,1,2,3,4,5,6,7],[0,1,3,4,5,2,6,7]] (by kernel_rfl) (by kernel_rfl) (trivial) (fun OPS HO QR hQR=>?_)
  refine List.forall_mem_cons.2 ⟨?_,List.forall_mem_cons.2 ⟨?_,fun _ h=>(by cases h)⟩⟩
  ·
   simp only[RX.pick,RX.nth,List.map_cons,List.map_nil,List.getD_cons_zero,List.getD_cons_succ]
   repeat (refine zeX (fun R hR=>?_);(first|refine zaX (by first|rfl|(rw[HO.out];rfl)) (by simp only[zA,zB,zC,zD];rfl) ?_|refine zbX (by first|rfl|(rw[HO.out];rfl)) rfl (by first|exact .inl rfl|exact .inr rfl) (by simp only[zE,zF,zG,zH];rfl) (by simp only[zA,zB,zC,zD];rfl) ?_|refine zcX (by first|rfl|(rw[HO.out];rfl)) rfl rfl (by simp only[zE,zF,zG,zH];rfl) (by simp only[zA,zB,zC,zD];rfl) ?_|(refine zdX (by first|rfl|(rw[HO.out];rfl)) rfl rfl rfl ?_;apply zEx;apply zEx;refine⟨fun w' hS K hK=>?_,?_,?_⟩;(focus (go_wp2;exact hK _ _ (by simp only[zl,zG,zH];first|exact zf (by omega)|exact zg (by omega)|exact zh (by omega)|exact zi (by omega)|exact zj (by omega)|exact zk (by omega)|exact RX.bneB _|rfl) rfl));(focus (simp only[zA,zB,zC,zD];rfl))));refine hR _ _ ?_;clear hR R)
   refine zeX (fun R hR=>?_)
   refine zgX (by first|rfl|(rw[HO.out];rfl)) rfl (fun K hK=>?_)
   go_wp2
   repeat (refine zeX (fun R hR=>?_);(first|refine zaX (by first|rfl|(rw[HO.out];rfl)) (by simp only[zA,zB,zC,zD];rfl) ?_|refine zbX (by first|rfl|(rw[HO.out];rfl)) rfl (by first|exact .inl rfl|exact .inr rfl) (by simp only[zE,zF,zG,zH];rfl) (by simp only[zA,zB,zC,zD];rfl) ?_|refine zcX (by first|rfl|(rw[HO.out];rfl)) rfl rfl (by simp only[zE,zF,zG,zH];rfl) (by simp only[zA,zB,zC,zD];rfl) ?_|(refine zdX (by first|rfl|(rw[HO.out];rfl)) rfl rfl rfl ?_;apply zEx;apply zEx;refine⟨fun w' hS K hK=>?_,?_,?_⟩;(focus (go_wp2;exact hK _ _ (by simp only[zl,zG,zH];first|exact zf (by omega)|exact zg (by omega)|exact zh (by omega)|exact zi (by omega)|exact zj (by omega)|exact zk (by omega)|exact RX.bneB _|rfl) rfl));(focus (simp only[zA,zB,zC,zD];rfl))));refine hR _ _ ?_;clear hR R)
   refine zeX (fun R hR=>?_)
   refine zgX (by first|rfl|(rw[HO.out];rfl)) rfl (fun K hK=>?_)
   go_wp2
   refine⟨trivial,hR _ _ ?_⟩;clear hR R
   repeat (refine zeX (fun R hR=>?_);(first|refine zaX (by first|rfl|(rw[HO.out];rfl)) (by simp only[zA,zB,zC,zD];rfl) ?_|refine zbX (by first|rfl|(rw[HO.out];rfl)) rfl (by first|exact .inl rfl|exact .inr rfl) (by simp only[zE,zF,zG,zH];rfl) (by simp only[zA,zB,zC,zD];rfl) ?_|refine zcX (by first|rfl|(rw[HO.out];rfl)) rfl rfl (by simp only[zE,zF,zG,zH];rfl) (by simp only[zA,zB,zC,zD];rfl) ?_|(refine zdX (by first|rfl|(rw[HO.out];rfl)) rfl rfl rfl ?_;apply zEx;apply zEx;refine⟨fun w' hS K hK=>?_,?_,?_⟩;(focus (go_wp2;exact hK _ _ (by simp only[zl,zG,zH];first|exact zf (by omega)|exact zg (by omega)|exact zh (by omega)|exact zi (by omega)|exact zj (by omega)|exact zk (by omega)|exact RX.bneB _|rfl) rfl));(focus (simp only[zA,zB,zC,zD];rfl))));refine hR _ _ ?_;clear hR R)
   refine RX.wpL_nil (hQR _ _ ?_);clear hQR QR HO OPS
   go_wp2
   go_meet
   case rel=>
    obtain⟨t1,t2,t3,t4⟩:=two_rows w M
    exact⟨w.heap.size,w.heap.size+1,rfl,rfl,by omega,Nat.le_refl _,by omega,by show w.heap.size < (((w.alloc (.cells (madeCells #[.int .i64 0] M) 3)).alloc (.cells (madeCells #[.int .i64 0] M) 3))).heap.size;omega,by show w.heap.size+1 < (((w.alloc (.cells (madeCells #[.int .i64 0] M) 3)).alloc (.cells (madeCells #[.int .i64 0] M) 3))).heap.size;omega,t1,t2,⟨t3.os,t3.tape,t3.output,t3.size,t3.block⟩⟩
  ·
   simp only[RX.pick,RX.nth,List.map_cons,List.map_nil,List.getD_cons_zero,List.getD_cons_succ]
   repeat (refine zeX (fun R hR=>?_);(first|refine zaX (by first|rfl|(rw[HO.out];rfl)) (by simp only[zA,zB,zC,zD];rfl) ?_|refine zbX (by first|rfl|(rw[HO.out];rfl)) rfl (by first|exact .inl rfl|exact .inr rfl) (by simp only[zE,zF,zG,zH];rfl) (by simp only[zA,zB,zC,zD];rfl) ?_|refine zcX (by first|rfl|(rw[HO.out];rfl)) rfl rfl (by simp only[zE,zF,zG,zH];rfl) (by simp only[zA,zB,zC,zD];rfl) ?_|(refine zdX (by first|rfl|(rw[HO.out];rfl)) rfl rfl rfl ?_;apply zEx;apply zEx;refine⟨fun w' hS K hK=>?_,?_,?_⟩;(focus (go_wp2;exact hK _ _ (by simp only[zl,zG,zH];first|exact zf (by omega)|exact zg (by omega)|exact zh (by omega)|exact zi (by omega)|exact zj (by omega)|exact zk (by omega)|exact RX.bneB _|rfl) rfl));(focus (simp only[zA,zB,zC,zD];rfl))));refine hR _ _ ?_;clear hR R)
   refine zeX (fun R hR=>?_)
   refine zgX (by first|rfl|(rw[HO.out];rfl)) rfl (fun K hK=>?_)
   go_wp2
   repeat (refine zeX (fun R hR=>?_);(first|refine zaX (by first|rfl|(rw[HO.out];rfl)) (by simp only[zA,zB,zC,zD];rfl) ?_|refine zbX (by first|rfl|(rw[HO.out];rfl)) rfl (by first|exact .inl rfl|exact .inr rfl) (by simp only[zE,zF,zG,zH];rfl) (by simp only[zA,zB,zC,zD];rfl) ?_|refine zcX (by first|rfl|(rw[HO.out];rfl)) rfl rfl (by simp only[zE,zF,zG,zH];rfl) (by simp only[zA,zB,zC,zD];rfl) ?_|(refine zdX (by first|rfl|(rw[HO.out];rfl)) rfl rfl rfl ?_;apply zEx;apply zEx;refine⟨fun w' hS K hK=>?_,?_,?_⟩;(focus (go_wp2;exact hK _ _ (by simp only[zl,zG,zH];first|exact zf (by omega)|exact zg (by omega)|exact zh (by omega)|exact zi (by omega)|exact zj (by omega)|exact zk (by omega)|exact RX.bneB _|rfl) rfl));(focus (simp only[zA,zB,zC,zD];rfl))));refine hR _ _ ?_;clear hR R)
   refine zeX (fun R hR=>?_)
   refine zgX (by first|rfl|(rw[HO.out];rfl)) rfl (fun K hK=>?_)
   go_wp2
   refine⟨trivial,hR _ _ ?_⟩;clear hR R
   repeat (refine zeX (fun R hR=>?_);(first|refine zaX (by first|rfl|(rw[HO.out];rfl)) (by simp only[zA,zB,zC,zD];rfl) ?_|refine zbX (by first|rfl|(rw[HO.out];rfl)) rfl (by first|exact .inl rfl|exact .inr rfl) (by simp only[zE,zF,zG,zH];rfl) (by simp only[zA,zB,zC,zD];rfl) ?_|refine zcX (by first|rfl|(rw[HO.out];rfl)) rfl rfl (by simp only[zE,zF,zG,zH];rfl) (by simp only[zA,zB,zC,zD];rfl) ?_|(refine zdX (by first|rfl|(rw[HO.out];rfl)) rfl rfl rfl ?_;apply zEx;apply zEx;refine⟨fun w' hS K hK=>?_,?_,?_⟩;(focus (go_wp2;exact hK _ _ (by simp only[zl,zG,zH];first|exact zf (by omega)|exact zg (by omega)|exact zh (by omega)|exact zi (by omega)|exact zj (by omega)|exact zk (by omega)|exact RX.bneB _|rfl) rfl));(focus (simp only[zA,zB,zC,zD];rfl))));refine hR _ _ ?_;clear hR R)
   refine RX.wpL_nil (hQR _ _ ?_);clear hQR QR HO OPS
   go_wp2
   go_meet
   case rel=>
    obtain⟨t1,t2,t3,t4⟩:=two_rows w M
    exact⟨w.heap.size+1,w.heap.size,rfl,rfl,by omega,by omega,Nat.le_refl _,by show w.heap.size+1 < (((w.alloc (.cells (madeCells #[.int .i64 0] M) 3)).alloc (.cells (madeCells #[.int .i64 0] M) 3))).heap.size;omega,by show w.heap.size < (((w.alloc (.cells (madeCells #[.int .i64 0] M) 3)).alloc (.cells (madeCells #[.int .i64 0] M) 3))).heap.size;omega,t2,t1,⟨t3.os,t3.tape,t3.output,t3.size,t3.block⟩⟩
 case rest=>
  clear hmk1
  obtain⟨A,B,rfl,rfl,hAB,hAw,hBw,hAl,hBl,hFA,hFB,hbW⟩:=hcut
  have HF1:=HF.out.below hbW (X':=fun b=>X b∨b=A∨b=B) (fun b hx=>by
   rcases hx with h|h|h
   ·exact⟨.inl h,Nat.lt_of_lt_of_le (HF.out.xl b h) hbW.size⟩
   ·exact⟨.inr (by omega),by omega⟩
   ·exact⟨.inr (by omega),by omega⟩)
  have HK1:=Kept.of_below hbW HF.out.xl
  have HGS:Hid (CS w wc g m X A B (relP n l) M M 0):=zN ⟨hFA.ext (fun j hj=>by rw[if_neg (by omega)]),hFB.ext (fun j hj=>by rw[if_neg (by omega)]),HF1,HK1⟩
  have hXA:Hid (¬ X A∧¬ X B):=zN ⟨fun h=>by have:=HF.out.xl A h;omega,fun h=>by have:=HF.out.xl B h;omega⟩
  have HWB:=zN hbW
  clear HF1 HK1 hFA hFB hbW HF
  generalize hP:relP n l=P at *
  have HP:=zN hP
  clear hP
  go_wp2
  go_loopw [9,10] (fun v9 v10 wr=>∃ (k:Nat) (z:Int),k≤M∧z=(k:Int)-1∧v10=.int .i64 z∧v9=.int .i64 (optI (fst P M k))∧CS w wr g m X A B P M k (30*(M-k))) (fun _ v10 _=>(intOf v10+1).toNat)
  case atStart=>exact⟨M,(M:Int)-1,Nat.le_refl _,rfl,rfl,by rw[fst_end];rfl,by rw[Nat.sub_self];exact HGS.out⟩
  case round=>
   clear HGS
   obtain⟨k,z,hkM,hz,rfl,rfl,hcs⟩:=hrel
   by_cases hk:0 < k
   ·obtain⟨i,rfl⟩:∃ i,k=i+1:=⟨k-1,by omega⟩
    obtain rfl:z=(i:Int):=by omega
    have hdk:decide ((i:Int)≥0)=true:=zDt (by omega)
    obtain⟨ca,fa⟩:=hcs.a i (by omega)
    obtain⟨cb,fb⟩:=hcs.b i (by omega)
    have HCS:=zN hcs
    have HI:Hid (CI w ((wr.setCell ⟨A,i,none⟩ (.int .i64 1)).setCell ⟨B,i,none⟩ (.int .i64 (-1))) g m X A B P M i M (30*(M-(i+1)))):=zN (hcs.start hXA.out hAB (by omega))
    clear hcs hz
    go_wp2
    clear ca fa cb fb HCS
    generalize ((wr.setCell ⟨A,i,none⟩ (.int .i64 1)).setCell ⟨B,i,none⟩ (.int .i64 (-1)))=W0 at *
    go_loopw [11] (fun v11 wx=>∃ (k:Nat) (z:Int),i+1≤k∧k≤M∧z=(k:Int)-1∧v11=.int .i64 z∧CI w wx g m X A B P M i k (30*(M-(i+1))+(M-k))) (fun v11 _=>(intOf v11).toNat)
    case atStart=>exact⟨M,(M:Int)-1,by omega,Nat.le_refl _,rfl,rfl,by rw[Nat.sub_self];exact HI.out⟩
    case round=>
     clear HI
     obtain⟨k,z,hik,hkM2,hz,rfl,hci⟩:=hrel
     by_cases hk:i+1 < k
     ·obtain⟨j,rfl⟩:∃ j,k=j+1:=⟨k-1,by omega⟩
      obtain rfl:z=(j:Int):=by omega
      have hdk2:decide ((j:Int) > (i:Int))=true:=zDt (by omega)
      obtain⟨hb1,hb2,_⟩:=scan_le P (L:=M) (i:=i) (M-(j+1)) (j+1) rfl (by omega)
      obtain⟨hb3,hb4⟩:=lf_le P (L:=M) (i:=j) (by omega)
      obtain⟨ca,fa⟩:=hci.a i (by omega)
      obtain⟨cj,fj⟩:=hci.a j (by omega)
      obtain⟨cb,fb⟩:=hci.b i (by omega)
      dsimp only at ca cb cj
      rw[if_pos rfl] at ca cb
      rw[if_neg (by omega),if_pos (by omega)] at cj
      have hv0:VecR wr p l:=HV.out.turn (fun a ha=>by
       have h0:0 < M:=by omega
       exact (hci.kp.block _ (HXP.out a ha h0)))
      obtain⟨bb,o,rfl,_,hrp⟩:=hv0.cell (by rw[HLN.out];omega)
      have hri:=hrp i (by rw[HLN.out];omega)
      have hrj:=hrp j (by rw[HLN.out];omega)
      have hXb:Hid (X bb):=zN (HXP.out _ rfl (by omega))
      have hpe:Hid (plB n (l[i]'(by rw[HLN.out];omega)) (l[j]'(by rw[HLN.out];omega))=P i j):=zN (by rw[←HP.out];exact (relP_eq _ _).symm)
      have hvi:Hid (ValR (l[i]'(by rw[HLN.out];omega))∧ValR (l[j]'(by rw[HLN.out];omega))):=zN ⟨HVR.out _ (List.getElem_mem _),HVR.out _ (List.getElem_mem _)⟩
      generalize l[i]'(by rw[HLN.out];omega)=ri at hri hpe hvi
      generalize l[j]'(by rw[HLN.out];omega)=rj at hrj hpe hvi
      generalize hS:(scanL P M i (j+1)).1=sc at ca hb1 hb2
      have HS:=zN hS
      generalize hlfe:lf P M j=lj at cj hb3 hb4
      have HLF:=zN hlfe
      have HCI:=zN hci
      have hSS:RptAt wr.drew bb (o+i*8) ri∧RptAt wr.drew bb (o+j*8) rj∧wr.drew.cell? ⟨A,i,none⟩=some (.int .i64 (sc:Int))∧wr.drew.cell? ⟨A,j,none⟩=some (.int .i64 (lj:Int)):=⟨hri.of_block rfl,hrj.of_block rfl,ca,cj⟩
      have HRD:Hid (RdOk ri∧RdOk rj):=zN ⟨hri.rd,hrj.rd⟩
      have hi0:(0:Int)≤(i:Int):=by omega
      have hi1:(i:Int) < (M:Int):=by omega
      have hj0:(0:Int)≤(j:Int):=by omega
      have hj1:(j:Int) < (M:Int):=by omega
      clear hci hz hv0 hrp hS hlfe hri hrj
      by_cases ht:sc≤lj+1
      ·have hdt:decide ((lj:Int)+1≥(sc:Int))=true:=zDt (by omega)
       clear ca fa cj fj cb fb
       go_wp2_with fail
       refine RX.region RX.fN (fun w'=>RptAt w' bb (o+i*8) ri∧RptAt w' bb (o+j*8) rj∧w'.cell? ⟨A,i,none⟩=some (.int .i64 (sc:Int))∧w'.cell? ⟨A,j,none⟩=some (.int .i64 (lj:Int))) (by kernel_rfl) (by kernel_rfl) (hSS) (fun OPS HO QR hQR=>?_)
       repeat (refine zeX (fun R hR=>?_);(first|refine zaX (by first|rfl|(rw[HO.out];rfl)) (by simp only[zA,zB,zC,zD];rfl) ?_|refine zbX (by first|rfl|(rw[HO.out];rfl)) rfl (by first|exact .inl rfl|exact .inr rfl) (by simp only[zE,zF,zG,zH];rfl) (by simp only[zA,zB,zC,zD];rfl) ?_|refine zcX (by first|rfl|(rw[HO.out];rfl)) rfl rfl (by simp only[zE,zF,zG,zH];rfl) (by simp only[zA,zB,zC,zD];rfl) ?_|(refine zdX (by first|rfl|(rw[HO.out];rfl)) rfl rfl rfl ?_;apply zEx;apply zEx;refine⟨fun w' hS K hK=>?_,?_,?_⟩;(focus (obtain⟨⟨x0,x1,x2,x3,x4,x5,x6,x7,_⟩,⟨y0,y1,y2,y3,y4,y5,y6,y7,_⟩,s2,s3⟩:=hS;go_wp2;exact hK _ _ (by simp only[zl,zG,zH];first|exact zf (by omega)|exact zg (by omega)|exact zh (by omega)|exact zi (by omega)|exact zj (by omega)|exact zk (by omega)|exact RX.bneB _|rfl) rfl));(focus (simp only[zA,zB,zC,zD];rfl))));refine hR _ _ ?_;clear hR R)
       refine zeX (fun R hR=>?_)
       refine zgX (by first|rfl|(rw[HO.out];rfl)) rfl (fun K hK=>?_)
       go_wp2_with fail
       have hbd:Below wr.heap.size wr wr.drew:=zBd (zBr _ _)
       refine (plaus_any g (m+(30*(M-(i+1))+(M-(j+1)))) _ n hn0 hn1 ri rj HRD.out.1 HRD.out.2 hvi.out.1 hvi.out.2 wr.drew ((HT.out.kept (HCI.out.kp.block 0 HX0.out)).below hbd) (.inl HX0.out) (HCI.out.f.below hbd (X':=fun b=>X b∨b=A∨b=B) (fun b hx=>⟨.inl hx,HCI.out.f.xl b hx⟩)) (by omega)).mono ?_
       rintro e w3 ⟨rfl,hf3,hk3⟩
       rw[hpe.out]
       have HCI2:Hid (CI w w3 g m X A B P M i (j+1) (30*(M-(i+1))+(M-(j+1))+1)):=zN (HCI.out.move hf3 ⟨hk3.os,hk3.tape,hk3.output,hk3.size,hk3.block⟩)
       have hSS3:RptAt w3 bb (o+i*8) ri∧RptAt w3 bb (o+j*8) rj∧w3.cell? ⟨A,i,none⟩=some (.int .i64 (sc:Int))∧w3.cell? ⟨A,j,none⟩=some (.int .i64 (lj:Int)):=
        ⟨hSS.1.of_block (hk3.block _ (.inl hXb.out)),hSS.2.1.of_block (hk3.block _ (.inl hXb.out)),hk3.cell hSS.2.2.1 (.inr (.inl rfl)),hk3.cell hSS.2.2.2 (.inr (.inl rfl))⟩
       clear hf3 hk3 hSS hbd HCI
       refine hK _ _ ⟨hSS3,hR _ _ ?_⟩;clear hK K hR R
       repeat (refine zeX (fun R hR=>?_);(first|refine zaX (by first|rfl|(rw[HO.out];rfl)) (by simp only[zA,zB,zC,zD];rfl) ?_|refine zbX (by first|rfl|(rw[HO.out];rfl)) rfl (by first|exact .inl rfl|exact .inr rfl) (by simp only[zE,zF,zG,zH];rfl) (by simp only[zA,zB,zC,zD];rfl) ?_|refine zcX (by first|rfl|(rw[HO.out];rfl)) rfl rfl (by simp only[zE,zF,zG,zH];rfl) (by simp only[zA,zB,zC,zD];rfl) ?_|(refine zdX (by first|rfl|(rw[HO.out];rfl)) rfl rfl rfl ?_;apply zEx;apply zEx;refine⟨fun w' hS K hK=>?_,?_,?_⟩;(focus (obtain⟨⟨x0,x1,x2,x3,x4,x5,x6,x7,_⟩,⟨y0,y1,y2,y3,y4,y5,y6,y7,_⟩,s2,s3⟩:=hS;go_wp2;exact hK _ _ (by simp only[zl,zG,zH];first|exact zf (by omega)|exact zg (by omega)|exact zh (by omega)|exact zi (by omega)|exact zj (by omega)|exact zk (by omega)|exact RX.bneB _|rfl) rfl));(focus (simp only[zA,zB,zC,zD];rfl))));refine hR _ _ ?_;clear hR R)
       refine RX.wpL_nil (hQR _ _ (hSS3) ?_);clear hQR QR HO OPS
       cases hPij:P i j
       ·go_wp2
        go_roundw
        case rel=>exact⟨j,(j:Int)-1,by omega,by omega,rfl,by go_num,(show 30*(M-(i+1))+(M-(j+1))+1=30*(M-(i+1))+(M-j) by omega) ▸ HCI2.out.same (by omega) (fun e=>by rw[hPij] at e;cases e.2)⟩
        case measure=>simp[intOf]<;>omega
       ·obtain⟨_,fa⟩:=HCI2.out.a i (by omega)
        obtain⟨cb,fb⟩:=HCI2.out.b i (by omega)
        obtain⟨_,_,ca,cj⟩:=hSS3
        have HP2:Hid (CI w ((w3.setCell ⟨A,i,none⟩ (.int .i64 ((lj:Int)+1))).setCell ⟨B,i,none⟩ (.int .i64 (j:Int))) g m X A B P M i j (30*(M-(i+1))+(M-(j+1))+1)):=zN (by
         have h:=HCI2.out.put hXA.out hAB (by omega) ⟨by rw[HS.out,HLF.out];exact ht,hPij⟩
         rw[HLF.out] at h
         exact h)
        go_wp2
        go_roundw
        case rel=>exact⟨j,(j:Int)-1,by omega,by omega,rfl,by go_num,(show 30*(M-(i+1))+(M-(j+1))+1=30*(M-(i+1))+(M-j) by omega) ▸ HP2.out⟩
        case measure=>simp[intOf]<;>omega
      ·have hdt:decide ((lj:Int)+1≥(sc:Int))=false:=zDf (by omega)
       clear cb fb fa fj
       go_wp2_with fail
       refine RX.region RX.fN (fun w'=>RptAt w' bb (o+i*8) ri∧RptAt w' bb (o+j*8) rj∧w'.cell? ⟨A,i,none⟩=some (.int .i64 (sc:Int))∧w'.cell? ⟨A,j,none⟩=some (.int .i64 (lj:Int))) (by kernel_rfl) (by kernel_rfl) (hSS) (fun OPS HO QR hQR=>?_)
       repeat (refine zeX (fun R hR=>?_);(first|refine zaX (by first|rfl|(rw[HO.out];rfl)) (by simp only[zA,zB,zC,zD];rfl) ?_|refine zbX (by first|rfl|(rw[HO.out];rfl)) rfl (by first|exact .inl rfl|exact .inr rfl) (by simp only[zE,zF,zG,zH];rfl) (by simp only[zA,zB,zC,zD];rfl) ?_|refine zcX (by first|rfl|(rw[HO.out];rfl)) rfl rfl (by simp only[zE,zF,zG,zH];rfl) (by simp only[zA,zB,zC,zD];rfl) ?_|(refine zdX (by first|rfl|(rw[HO.out];rfl)) rfl rfl rfl ?_;apply zEx;apply zEx;refine⟨fun w' hS K hK=>?_,?_,?_⟩;(focus (obtain⟨⟨x0,x1,x2,x3,x4,x5,x6,x7,_⟩,⟨y0,y1,y2,y3,y4,y5,y6,y7,_⟩,s2,s3⟩:=hS;go_wp2;exact hK _ _ (by simp only[zl,zG,zH];first|exact zf (by omega)|exact zg (by omega)|exact zh (by omega)|exact zi (by omega)|exact zj (by omega)|exact zk (by omega)|exact RX.bneB _|rfl) rfl));(focus (simp only[zA,zB,zC,zD];rfl))));refine hR _ _ ?_;clear hR R)
       refine RX.wpL_nil (hQR _ _ (hSS) ?_);clear hQR QR HO OPS
       go_wp2
       go_roundw
       case rel=>exact⟨j,(j:Int)-1,by omega,by omega,rfl,by go_num,(HCI.out.same (by omega) (fun e=>ht (by rw[HS.out,HLF.out] at e;exact e.1))).quiet (by omega)⟩
       case measure=>simp[intOf]<;>omega
     ·obtain rfl:k=i+1:=by omega
      obtain rfl:z=(i:Int):=by omega
      have hdk2:decide ((i:Int) > (i:Int))=false:=zDf (by omega)
      have HCS:Hid (CS w wr g m X A B P M i (30*(M-i))):=zN (hci.fin (by omega) (by omega))
      have hcs:=HCS.out
      obtain⟨ca,_⟩:=hcs.a i (by omega)
      dsimp only at ca
      rw[if_pos (Nat.le_refl _)] at ca
      obtain⟨hlf1,hlf2⟩:=lf_le P (L:=M) (i:=i) (by omega)
      have hst:=fst_step P (L:=M) (i:=i) (by omega)
      have hi0:(0:Int)≤(i:Int):=by omega
      have hi1:(i:Int) < (M:Int):=by omega
      clear hci hz
      cases hf:fst P M (i+1) with
      |none=>
       rw[hf] at hst
       have HST:Hid (fst P M i=some i):=zN hst
       rw[show optI none=(-1:Int) from rfl]
       clear hcs hst hf
       go_wp2_with fail
       refine RX.region RX.fN (fun w'=>w'=_) (by kernel_rfl) (by kernel_rfl) rfl (fun OPS HO QR hQR=>?_)
       repeat (refine zeX (fun R hR=>?_);(first|refine zaX (by first|rfl|(rw[HO.out];rfl)) (by simp only[zA,zB,zC,zD];rfl) ?_|refine zbX (by first|rfl|(rw[HO.out];rfl)) rfl (by first|exact .inl rfl|exact .inr rfl) (by simp only[zE,zF,zG,zH];rfl) (by simp only[zA,zB,zC,zD];rfl) ?_|refine zcX (by first|rfl|(rw[HO.out];rfl)) rfl rfl (by simp only[zE,zF,zG,zH];rfl) (by simp only[zA,zB,zC,zD];rfl) ?_|(refine zdX (by first|rfl|(rw[HO.out];rfl)) rfl rfl rfl ?_;apply zEx;apply zEx;refine⟨fun w' hS K hK=>?_,?_,?_⟩;(focus (subst hS;go_wp2;exact hK _ _ (by simp only[zl,zG,zH];first|exact zf (by omega)|exact zg (by omega)|exact zh (by omega)|exact zi (by omega)|exact zj (by omega)|exact zk (by omega)|exact RX.bneB _|rfl) rfl));(focus (simp only[zA,zB,zC,zD];rfl))));refine hR _ _ ?_;clear hR R)
       refine RX.wpL_nil (hQR _ _ rfl ?_);clear hQR QR HO OPS
       go_wp2
       go_roundw
       case rel=>exact⟨i,(i:Int)-1,by omega,rfl,by go_num,by rw[HST.out];rfl,HCS.out.quiet⟩
       case measure=>simp[intOf]<;>omega
      |some j=>
       obtain⟨hj1,hj2,_⟩:=fst_some P (by omega) hf
       obtain⟨cj,_⟩:=hcs.a j hj2
       dsimp only at cj
       rw[if_pos (by omega)] at cj
       have hj0:(0:Int)≤(j:Int):=by omega
       have hj3:(j:Int) < (M:Int):=by omega
       have hjn:decide ((j:Int) < 0)=false:=zDf (by omega)
       rw[hf] at hst
       rw[show optI (some j)=(j:Int) from rfl]
       by_cases hle:lf P M j≤lf P M i
       ·have HST:Hid (fst P M i=some i):=zN (hst.trans (if_pos hle))
        have hdl:decide ((lf P M i:Int)≥(lf P M j:Int))=true:=zDt (by omega)
        generalize lf P M i=li at *
        generalize lf P M j=lj at *
        clear hcs hst hf
        go_wp2_with fail
        refine RX.region RX.fN (fun w'=>w'=_) (by kernel_rfl) (by kernel_rfl) rfl (fun OPS HO QR hQR=>?_)
        repeat (refine zeX (fun R hR=>?_);(first|refine zaX (by first|rfl|(rw[HO.out];rfl)) (by simp only[zA,zB,zC,zD];rfl) ?_|refine zbX (by first|rfl|(rw[HO.out];rfl)) rfl (by first|exact .inl rfl|exact .inr rfl) (by simp only[zE,zF,zG,zH];rfl) (by simp only[zA,zB,zC,zD];rfl) ?_|refine zcX (by first|rfl|(rw[HO.out];rfl)) rfl rfl (by simp only[zE,zF,zG,zH];rfl) (by simp only[zA,zB,zC,zD];rfl) ?_|(refine zdX (by first|rfl|(rw[HO.out];rfl)) rfl rfl rfl ?_;apply zEx;apply zEx;refine⟨fun w' hS K hK=>?_,?_,?_⟩;(focus (subst hS;go_wp2;exact hK _ _ (by simp only[zl,zG,zH];first|exact zf (by omega)|exact zg (by omega)|exact zh (by omega)|exact zi (by omega)|exact zj (by omega)|exact zk (by omega)|exact RX.bneB _|rfl) rfl));(focus (simp only[zA,zB,zC,zD];rfl))));refine hR _ _ ?_;clear hR R)
        refine RX.wpL_nil (hQR _ _ rfl ?_);clear hQR QR HO OPS
        go_wp2
        go_roundw
        case rel=>exact⟨i,(i:Int)-1,by omega,rfl,by go_num,by rw[HST.out];rfl,HCS.out.quiet⟩
        case measure=>simp[intOf]<;>omega
       ·have HST:Hid (fst P M i=some j):=zN (hst.trans (if_neg hle))
        have hdl:decide ((lf P M i:Int)≥(lf P M j:Int))=false:=zDf (by omega)
        generalize lf P M i=li at *
        generalize lf P M j=lj at *
        clear hcs hst hf
        go_wp2_with fail
        refine RX.region RX.fN (fun w'=>w'=_) (by kernel_rfl) (by kernel_rfl) rfl (fun OPS HO QR hQR=>?_)
        repeat (refine zeX (fun R hR=>?_);(first|refine zaX (by first|rfl|(rw[HO.out];rfl)) (by simp only[zA,zB,zC,zD];rfl) ?_|refine zbX (by first|rfl|(rw[HO.out];rfl)) rfl (by first|exact .inl rfl|exact .inr rfl) (by simp only[zE,zF,zG,zH];rfl) (by simp only[zA,zB,zC,zD];rfl) ?_|refine zcX (by first|rfl|(rw[HO.out];rfl)) rfl rfl (by simp only[zE,zF,zG,zH];rfl) (by simp only[zA,zB,zC,zD];rfl) ?_|(refine zdX (by first|rfl|(rw[HO.out];rfl)) rfl rfl rfl ?_;apply zEx;apply zEx;refine⟨fun w' hS K hK=>?_,?_,?_⟩;(focus (subst hS;go_wp2;exact hK _ _ (by simp only[zl,zG,zH];first|exact zf (by omega)|exact zg (by omega)|exact zh (by omega)|exact zi (by omega)|exact zj (by omega)|exact zk (by omega)|exact RX.bneB _|rfl) rfl));(focus (simp only[zA,zB,zC,zD];rfl))));refine hR _ _ ?_;clear hR R)
        refine RX.wpL_nil (hQR _ _ rfl ?_);clear hQR QR HO OPS
        go_wp2
        go_roundw
        case rel=>exact⟨i,(i:Int)-1,by omega,rfl,by go_num,by rw[HST.out];rfl,HCS.out.quiet⟩
        case measure=>simp[intOf]<;>omega
   ·obtain rfl:k=0:=by omega
    obtain rfl:z=-1:=by omega
    have hdk:decide ((-1:Int)≥0)=false:=rfl
    have HCS:=zN hcs
    have hkw:=hcs.kp.size
    clear hcs hz
    generalize wr=W1 at *
    go_wp2
    go_loopw [9,12] (fun v9 v12 wx=>∃ (D:List Nat) (f:Nat) (c:Option Nat),v9=.int .i64 (optI c)∧QRow wx W1.heap.size v12 D∧D ++ fol P M f c=chainP P M∧(∀ i,c=some i→i < M∧M+1≤f+i)∧Below W1.heap.size W1 wx) (fun v9 _ _=>if intOf v9 < 0 then 0 else ((M:Int)+1-intOf v9).toNat)
    case atStart=>exact⟨[],M+1,fst P M 0,rfl,QRow.nil _ _,by rw[chain_fol];rfl,fun i hi=>by obtain⟨_,h,_⟩:=fst_some P (Nat.zero_le _) hi;omega,zBr _ _⟩
    case round=>
     obtain⟨D,f,c,rfl,hq,hD,hc,hb⟩:=hrel
     have hDl:D.length≤M:=by
      have h1:=congrArg List.length hD
      have h2:=chain_len P M
      rw[List.length_append] at h1
      omega
     obtain⟨pd,cd,rfl,hcd⟩:=own_slice hq
     cases c with
     |none=>
      rw[show optI none=(-1:Int) from rfl]
      have hDe:Hid (D=chainP P M):=zN (by cases f with
       |zero=>simpa[fol] using hD
       |succ f=>simpa[fol] using hD)
      have HQ:=zN hq
      have HB:=zN hb
      clear hq hD hc hb
      go_wp2
      go_ret
      refine⟨_,rfl,?_,?_,?_⟩
      ·rw[HP.out,←hDe.out];exact own_mono HQ.out hkw
      ·refine (HCS.out.f.below HB.out (fun b hx=>?_)).upto (by omega)
       rcases hx with h|h
       ·exact⟨.inl (.inl h),Nat.lt_of_lt_of_le (HCS.out.f.xl b (.inl h)) HB.out.size⟩
       ·obtain⟨h1,h2⟩:=World.ownsRow.lt HQ.out b h
        exact⟨.inr h1,h2⟩
      ·exact HCS.out.kp.trans (Kept.of_below HB.out (fun i h=>HCS.out.f.xl i (.inl h))) (fun _ h=>h)
     |some i=>
      obtain⟨hi,hfi⟩:=hc i rfl
      rw[show optI (some i)=(i:Int) from rfl]
      have hi0:(0:Int)≤(i:Int):=by omega
      have hi1:(i:Int) < (M:Int):=by omega
      have hdi:decide ((i:Int)≥0)=true:=zDt hi0
      obtain⟨f,rfl⟩:∃ f',f=f'+1:=⟨f-1,by omega⟩
      obtain⟨cb,_⟩:=HCS.out.b i hi
      dsimp only at cb
      rw[if_pos (Nat.zero_le _)] at cb
      have HD:Hid (D ++ [i] ++ fol P M f (nx P M i)=chainP P M):=zN (by rw[←hD,List.append_assoc];rfl)
      have HNX:Hid (∀ k,nx P M i=some k→k < M∧M+1≤f+k∧i < k):=zN (fun k hk=>by have:=nx_lt P hi hk;omega)
      have hown:(wr.alloc (.cells #[.int .i64 i] 3)).ownsRow W1.heap.size 3 1 (.slice pd D.length cd) D.length (qV D):=World.ownsRow.alloc hq _
      have hsz:=hb.size
      have HB:=zN hb
      generalize nx P M i=c' at *
      clear hq hD hc hb
      go_wp2_with (refine RX.wpl_apq (by rfl) elIn _ _ (by rfl) W1.heap.size _ _ _ hown (by rfl) wr.heap.size _ 1 (by rfl) (heap_alloc_new _ _) (by rfl) (by simp[Value.oneCell']) (by omega) (by omega) (by simp;omega) ?_;intro v' w2 hown2 hb2 hg2 hat2;have cb2:=zP ((HB.out.alloc hsz _).trans hb2) cb)
      have HQ2:Hid (QRow w2 W1.heap.size v' (D ++ [i])):=zN (QRow.snoc hown2)
      have HB2:Hid (Below W1.heap.size W1 w2):=zN ((HB.out.alloc hsz _).trans hb2)
      clear hown2 hb2 hg2 hat2 hown
      go_wp2
      go_roundw
      case rel=>exact⟨D ++ [i],f,c',rfl,HQ2.out,HD.out,fun k hk=>⟨(HNX.out k hk).1,(HNX.out k hk).2.1⟩,HB2.out⟩
      case measure=>
       have h0:¬ ((i:Int) < 0):=by omega
       cases c' with
       |none=>simp[intOf,optI,h0];try omega
       |some k=>
        have:=(HNX.out k rfl).2.2
        have h1:¬ ((k:Int) < 0):=by omega
        simp[intOf,optI,h0,h1];try omega
def AscT (l:List Rep):Prop:=l.Pairwise (fun r s=>r.time < s.time)
instance (l:List Rep):Decidable (AscT l):=by unfold AscT;infer_instance
def AllV (l:List Rep):Prop:=∀ r∈l,ValR r
instance (l:List Rep):Decidable (AllV l):=by unfold AllV;infer_instance
theorem ascT_adj {l:List Rep} (h:∀ i (hi:i+1 < l.length),l[i].time < l[i+1].time):AscT l:=by
 have key:∀ d i (hi:i+(d+1) < l.length),l[i].time < l[i+(d+1)].time:=by
  intro d
  induction d with
  |zero=>intro i hi;exact h i hi
  |succ d ih=>
   intro i hi
   have h1:=ih i (by omega)
   have h2:=h (i+(d+1)) (by omega)
   have e:i+(d+1)+1=i+(d+1+1):=by omega
   simp only[e] at h2
   omega
 unfold AscT
 rw[List.pairwise_iff_getElem]
 intro i j hi hj hij
 obtain⟨d,rfl⟩:∃ d,j=i+(d+1):=⟨j-i-1,by omega⟩
 exact key d i hj
def chE (n:Int) (l:List Rep):Int:=if hopB n=true∧AllV l then (if AscT l then 0 else 8) else 1
noncomputable def chL (n:Int) (l:List Rep):List Nat:=if chE n l=0 then chainP (relP n l) l.length else []
theorem chE_no {n:Int} {l:List Rep} (h:¬ (hopB n=true∧AllV l)):chE n l=1∧chL n l=[]:=by
 have e:chE n l=1:=if_neg h
 exact⟨e,by unfold chL;rw[e];rfl⟩
theorem chE_ord {n:Int} {l:List Rep} (h:hopB n=true∧AllV l) (h2:¬ AscT l):chE n l=8∧chL n l=[]:=by
 have e:chE n l=8:=by unfold chE;rw[if_pos h,if_neg h2]
 exact⟨e,by unfold chL;rw[e];rfl⟩
theorem chE_ok {n:Int} {l:List Rep} (h:hopB n=true∧AllV l) (h2:AscT l):chE n l=0∧chL n l=chainP (relP n l) l.length:=by
 have e:chE n l=0:=by unfold chE;rw[if_pos h,if_pos h2]
 exact⟨e,by unfold chL;rw[e];rfl⟩
theorem any_bad {l:List Rep}:l.any (fun r=>!decide (ValR r))=!decide (AllV l):=by
 rw[Bool.eq_iff_iff,List.any_eq_true]
 constructor
 ·rintro⟨r,hr,h⟩
  rw[Bool.not_eq_true',decide_eq_false_iff_not] at h ⊢
  exact fun ha=>h (ha r hr)
 ·intro h
  rw[Bool.not_eq_true',decide_eq_false_iff_not] at h
  refine Classical.byContradiction fun hn=>h fun r hr=>?_
  refine Classical.byContradiction fun hv=>hn ⟨r,hr,?_⟩
  rw[Bool.not_eq_true',decide_eq_false_iff_not];exact hv
theorem Chain_long (n:Int) (p:Option Addr) (M cap:Nat) (hM:30 < M) (w:World) :
  Calls Tryz.prog 14 #[.slice p M cap,.int .i64 n] w fun e w'=>e=.returned (.tuple #[.slice none 0 0,.int .i64 2])∧Below w.heap.size w w':=by
 have hd:decide ((M:Int) > 30)=true:=zDt (by omega)
 have hb:=zBr w.heap.size w
 go_enter Tryz.func14,Tryz.ntmps14
 go_wp2
 go_ret2
 exact⟨rfl,hb⟩
theorem Chain_any (n:Int) (p:Option Addr) (cap:Nat) (l:List Rep) (hL:l.length≤30) (w:World) (hT:HasTab w) (hV:VecR w p l) (hpb:∀ a,p=some a→0 < l.length→a.block < w.heap.size) :
  Calls Tryz.prog 14 #[.slice p l.length cap,.int .i64 n] w fun e w'=>∃ v,e=.returned (.tuple #[v,.int .i64 (chE n l)])∧QRow w' w.heap.size v (chL n l)∧Below w.heap.size w w':=by
 obtain⟨M,hM⟩:∃ M,M=l.length:=⟨_,rfl⟩
 have HM:=zN hM
 rw[←hM] at hL ⊢
 have hd:decide ((M:Int) > 30)=false:=zDf (by omega)
 have HV:=zN hV
 have HT:=zN hT
 have HPB:=zN hpb
 have hB0:=zN (zBr w.heap.size w)
 have hT0:=hT.lt
 clear hM hV hT hpb
 go_enter Tryz.func14,Tryz.ntmps14
 go_wp2_with fail
 refine (hopping_any n w).mono ?_
 rintro e w1' ⟨rfl,rfl⟩
 cases hh:hopB n
 ·obtain⟨e1,e2⟩:=chE_no (n:=n) (l:=l) (fun e=>by rw[hh] at e;cases e.1)
  have HE:=zN (And.intro e1 e2)
  clear e1 e2
  go_wp2
  go_ret2
  refine⟨.slice none 0 0,?_,?_,hB0.out⟩
  ·rw[HE.out.1];rfl
  ·rw[HE.out.2];exact QRow.nil _ _
 obtain⟨hn0,hn1⟩:0≤n∧n≤1000:=by unfold hopB at hh;exact of_decide_eq_true hh
 have HH:=zN hh
 clear hh
 go_wp2_with fail
 refine (contains_rep p l cap M w HM.out.symm HV.out (by omega) 35 (fun r=>!decide (ValR r)) (enters_of Tryz.func35 (by kernel_rfl) rfl) (fun x hx w' hb=>chain1_any x ?_ w')).mono ?_
 ·obtain⟨j,hj,rfl⟩:=List.getElem_of_mem hx
  obtain⟨b,o,_,_,hc⟩:=HV.out.cell (by omega)
  exact (hc j hj).rd
 rintro e w1 ⟨rfl,hb1⟩
 rw[any_bad]
 have HB1:=zN hb1
 clear hb1
 by_cases hv:AllV l
 ·rw[zDt hv]
  have HVL:=zN hv
  clear hv
  rw[show (!true)=false from rfl]
  have hV1:=HV.out.below HB1.out
  go_wp2
  go_loopw [6] (fun v6 wx=>∃ (k:Nat),1≤k∧(k≤M∨k=1)∧v6=.int .i64 (k:Int)∧Hid (∀ i (hi:i+1 < l.length),i+1 < k→l[i].time < l[i+1].time)∧Below w.heap.size w wx) (fun v6 _=>M-(intOf v6).toNat)
  case atStart=>exact⟨1,Nat.le_refl _,.inr rfl,rfl,zN (fun i hi h=>by omega),HB1.out⟩
  case round=>
   obtain⟨k,hk1,hkM,rfl,HI,hb⟩:=hrel
   by_cases hk:k < M
   ·have hdk:decide ((k:Int) < (M:Int))=true:=zDt (by omega)
    obtain⟨i,rfl⟩:∃ i,k=i+1:=⟨k-1,by omega⟩
    obtain⟨bb,o,rfl,_,hrp⟩:=(HV.out.below hb).cell (by rw[←HM.out];omega)
    have hri:=hrp i (by rw[←HM.out];omega)
    have hrj:=hrp (i+1) (by rw[←HM.out];omega)
    have HIV:Hid (∀ hi:i+1 < l.length,(l[i].time < l[i+1].time)=(l[i].time < l[i+1].time)):=zN (fun _=>rfl)
    obtain⟨ri,hrie⟩:∃ r,r=l[i]'(by rw[←HM.out];omega):=⟨_,rfl⟩
    obtain⟨rj,hrje⟩:∃ r,r=l[i+1]'(by rw[←HM.out];omega):=⟨_,rfl⟩
    rw[←hrie] at hri
    rw[←hrje] at hrj
    have HRI:=zN (And.intro hrie hrje)
    obtain⟨_,_,c2,_,_,_,_,_,_⟩:=hri
    obtain⟨_,_,d2,_,_,_,_,_,_⟩:=hrj
    have hi0:(0:Int)≤(i:Int):=by omega
    have hi1:(i:Int) < (M:Int):=by omega
    have hj1:((i:Int)+1) < (M:Int):=by omega
    have HB:=zN hb
    clear hrp hrie hrje hb hV1 HIV
    by_cases hlt:ri.time < rj.time
    ·have hdl:decide (ri.time≥rj.time)=false:=zDf (by omega)
     go_wp2_with fail
     refine RX.region RX.fN (fun w'=>w'=_) (by kernel_rfl) (by kernel_rfl) rfl (fun OPS HO QR hQR=>?_)
     repeat (refine zeX (fun R hR=>?_);(first|refine zaX (by first|rfl|(rw[HO.out];rfl)) (by simp only[zA,zB,zC,zD];rfl) ?_|refine zbX (by first|rfl|(rw[HO.out];rfl)) rfl (by first|exact .inl rfl|exact .inr rfl) (by simp only[zE,zF,zG,zH];rfl) (by simp only[zA,zB,zC,zD];rfl) ?_|refine zcX (by first|rfl|(rw[HO.out];rfl)) rfl rfl (by simp only[zE,zF,zG,zH];rfl) (by simp only[zA,zB,zC,zD];rfl) ?_|(refine zdX (by first|rfl|(rw[HO.out];rfl)) rfl rfl rfl ?_;apply zEx;apply zEx;refine⟨fun w' hS K hK=>?_,?_,?_⟩;(focus (subst hS;go_wp2;exact hK _ _ (by simp only[zl,zG,zH];first|exact zf (by omega)|exact zg (by omega)|exact zh (by omega)|exact zi (by omega)|exact zj (by omega)|exact zk (by omega)|exact RX.bneB _|rfl) rfl));(focus (simp only[zA,zB,zC,zD];rfl))));refine hR _ _ ?_;clear hR R)
     refine RX.wpL_nil (hQR _ _ rfl ?_);clear hQR QR HO OPS
     go_wp2
     go_roundw
     case rel=>exact⟨i+1+1,by omega,.inl (by omega),by go_num,zN (fun j hj hjk=>by
      by_cases e:j=i
      ·subst e;rw[←HRI.out.1,←HRI.out.2];exact hlt
      ·exact HI.out j hj (by omega)),HB.out.drew⟩
     case measure=>simp[intOf]<;>omega
    ·have hdl:decide (ri.time≥rj.time)=true:=zDt (by omega)
     obtain⟨e1,e2⟩:=chE_ord (n:=n) (l:=l) ⟨HH.out,HVL.out⟩ (fun ha=>hlt (by
      have:=List.pairwise_iff_getElem.1 ha i (i+1) (by rw[←HM.out];omega) (by rw[←HM.out];omega) (by omega)
      rw[←HRI.out.1,←HRI.out.2] at this;exact this))
     have HE:=zN (And.intro e1 e2)
     clear e1 e2
     go_wp2_with fail
     refine RX.region RX.fN (fun w'=>w'=_) (by kernel_rfl) (by kernel_rfl) rfl (fun OPS HO QR hQR=>?_)
     repeat (refine zeX (fun R hR=>?_);(first|refine zaX (by first|rfl|(rw[HO.out];rfl)) (by simp only[zA,zB,zC,zD];rfl) ?_|refine zbX (by first|rfl|(rw[HO.out];rfl)) rfl (by first|exact .inl rfl|exact .inr rfl) (by simp only[zE,zF,zG,zH];rfl) (by simp only[zA,zB,zC,zD];rfl) ?_|refine zcX (by first|rfl|(rw[HO.out];rfl)) rfl rfl (by simp only[zE,zF,zG,zH];rfl) (by simp only[zA,zB,zC,zD];rfl) ?_|(refine zdX (by first|rfl|(rw[HO.out];rfl)) rfl rfl rfl ?_;apply zEx;apply zEx;refine⟨fun w' hS K hK=>?_,?_,?_⟩;(focus (subst hS;go_wp2;exact hK _ _ (by simp only[zl,zG,zH];first|exact zf (by omega)|exact zg (by omega)|exact zh (by omega)|exact zi (by omega)|exact zj (by omega)|exact zk (by omega)|exact RX.bneB _|rfl) rfl));(focus (simp only[zA,zB,zC,zD];rfl))));refine hR _ _ ?_;clear hR R)
     refine RX.wpL_nil (hQR _ _ rfl ?_);clear hQR QR HO OPS
     go_wp2
     go_ret2
     refine⟨.slice none 0 0,?_,?_,HB.out.drew⟩
     ·rw[HE.out.1];rfl
     ·rw[HE.out.2];exact QRow.nil _ _
   ·have hdk:decide ((k:Int) < (M:Int))=false:=zDf (by omega)
    obtain⟨e1,e2⟩:=chE_ok (n:=n) (l:=l) ⟨HH.out,HVL.out⟩ (ascT_adj (fun i hi=>HI.out i hi (by have:=HM.out;omega)))
    have HE:=zN (And.intro e1 e2)
    have HB:=zN hb
    have hlz:=hb.size
    clear e1 e2 hb hV1
    go_wp2_with fail
    have hba:Below wr.heap.size wr (wr.alloc (.cells #[.pointer none,.map none] 69)):=(zBr _ _).alloc (Nat.le_refl _) _
    have hbw:=HB.out.trans (hba.mono hlz)
    refine (gchain_any wr.heap.size 0 (fun b=>b < wr.heap.size) n hn0 hn1 p cap M l HM.out.symm HVL.out hL _ (HT.out.below hbw) (by show 0 < wr.heap.size;omega) (HV.out.below hbw) (fun a ha h0=>by show a.block < wr.heap.size;have:=HPB.out a ha (by have:=HM.out;omega);omega) (FieldAt.new wr) (by omega)).mono ?_
    rintro e w2 ⟨v,rfl,hq,_,hk2⟩
    have HQ:=zN hq
    have HB2:Hid (Below w.heap.size w w2):=zN (HB.out.trans ((hba.trans (hk2.below (fun i h=>h))).mono hlz))
    clear hq hk2 hba hbw
    go_wp2
    go_ret2
    refine⟨v,?_,?_,HB2.out⟩
    ·rw[HE.out.1];rfl
    ·rw[HE.out.2,←HM.out];exact own_mono HQ.out (by simp;omega)
 ·rw[zDf hv]
  obtain⟨e1,e2⟩:=chE_no (n:=n) (l:=l) (fun e=>hv e.2)
  have HE:=zN (And.intro e1 e2)
  clear e1 e2 hv
  go_wp2
  go_ret2
  refine⟨.slice none 0 0,?_,?_,HB1.out⟩
  ·rw[HE.out.1];rfl
  ·rw[HE.out.2];exact QRow.nil _ _
end Go.Proofs.YtbomggfklfbnkaaGreatDoor
