import Derived.Test.YtednaajanciabaaGreatDoorGrid
import Derived.Test.YtednaajanciabaaGreatDoorKBNear
import Derived.Test.YtednaajanciabaaGreatDoorBBase
import Derived.Test.YtednaajanciabaaGreatDoorKBVal
import Derived.ChangeKeysEq
import Derived.Test.YtednaajanciabaaGreatDoorKRegion
import Derived.Deep.CutBlock
set_option maxRecDepth 100000
set_option maxHeartbeats 8000000
set_option linter.unusedSimpArgs false
set_option linter.unusedVariables false
namespace Go.Buddy
structure Pan where
 n:Nat
 pr:Nat→Bool
 val:Nat→Int
 nx:Nat→List Nat
 lim:Int
def agree (P:Pan) (i k:Nat):Bool:=decide (max (P.val i-P.val k) (P.val k-P.val i)≤P.lim)
def stands (P:Pan) (S:Nat→Bool) (i:Nat):Bool:=decide ((P.nx i).length < 3) || decide (2≤((P.nx i).filter (fun k=>S k && agree P i k)).length)
def stable (P:Pan) (S:Nat→Bool):Prop:=∀ i,i < P.n→S i=true→P.pr i=true∧stands P S i=true
def sub (P:Pan) (S T:Nat→Bool):Prop:=∀ i,i < P.n→S i=true→T i=true
def closed (P:Pan):Prop:=∀ i,i < P.n→∀ k∈P.nx i,k < P.n
theorem filter_le {α:Type} {p q:α→Bool}:∀ (l:List α),(∀ x∈l,p x=true→q x=true)→(l.filter p).length≤(l.filter q).length
 |[],_=>Nat.le_refl _
 |x :: l,h=>by
  have ih:=filter_le l (fun y hy=>h y (List.mem_cons_of_mem _ hy))
  have hx:=h x (List.mem_cons_self ..)
  simp only[List.filter_cons]
  by_cases hp:p x=true
  ·rw[if_pos hp,if_pos (hx hp)];simp;exact ih
  ·rw[if_neg hp]
   by_cases hq:q x=true
   ·rw[if_pos hq];simp;omega
   ·rw[if_neg hq];exact ih
theorem stands_mono {P:Pan} {S T:Nat→Bool} (hc:closed P) (h:sub P S T) {i:Nat} (hi:i < P.n) (hs:stands P S i=true):stands P T i=true:=by
 unfold stands at hs ⊢
 rw[Bool.or_eq_true,decide_eq_true_eq,decide_eq_true_eq] at hs ⊢
 rcases hs with hs|hs
 ·exact .inl hs
 ·refine .inr (Nat.le_trans hs (filter_le _ (fun k hk hp=>?_)))
  rw[Bool.and_eq_true] at hp ⊢
  exact⟨h k (hc i hi k hk) hp.1,hp.2⟩
noncomputable def left (P:Pan) (i:Nat):Bool:=@decide (∃ S,stable P S∧S i=true) (Classical.propDecidable _)
theorem left_iff {P:Pan} {i:Nat}:left P i=true↔∃ S,stable P S∧S i=true:=@decide_eq_true_iff _ (Classical.propDecidable _)
theorem sub_left {P:Pan} {S:Nat→Bool} (h:stable P S):sub P S (left P):=fun i _ hi=>left_iff.2 ⟨S,h,hi⟩
theorem left_stable {P:Pan} (hc:closed P):stable P (left P):=fun i hi h=>by
 obtain⟨S,hs,h1⟩:=left_iff.1 h
 obtain⟨h2,h3⟩:=hs i hi h1
 exact⟨h2,stands_mono hc (sub_left hs) hi h3⟩
structure Keeps (P:Pan) (L:Nat→Bool):Prop where
 pr:∀ i,i < P.n→L i=true→P.pr i=true
 all:∀ S,stable P S→sub P S L
theorem Keeps.start (P:Pan):Keeps P P.pr:=⟨fun _ _ h=>h,fun S hS i hi h=>(hS i hi h).1⟩
theorem Keeps.drop {P:Pan} {L L':Nat→Bool} (h:Keeps P L) (hc:closed P) (hs:∀ i,i < P.n→L' i=true→L i=true) (hd:∀ i,i < P.n→L i=true→L' i=false→stands P L i=false):Keeps P L':=
 ⟨fun i hi hl=>h.pr i hi (hs i hi hl),fun S hS i hi hSi=>by
  have h1:=h.all S hS i hi hSi
  cases hl:L' i with
  |true=>rfl
  |false=>
   have h2:=hd i hi h1 hl
   have h3:=stands_mono hc (h.all S hS) hi (hS i hi hSi).2
   rw[h2] at h3
   cases h3⟩
theorem Keeps.fin {P:Pan} {L:Nat→Bool} (h:Keeps P L) (hs:∀ i,i < P.n→L i=true→stands P L i=true):∀ i,i < P.n→L i=left P i:=fun i hi=>by
 have hst:stable P L:=fun k hk hl=>⟨h.pr k hk hl,hs k hk hl⟩
 cases hl:L i with
 |true=>exact (left_iff.2 ⟨L,hst,hl⟩).symm
 |false=>
  cases hf:left P i with
  |false=>rfl
  |true=>
   obtain⟨S,hS,h1⟩:=left_iff.1 hf
   rw[h.all S hS i hi h1] at hl
   cases hl
noncomputable def rej (P:Pan) (i:Nat):Bool:=P.pr i && !left P i
theorem left_few {P:Pan} (h:∀ i,i < P.n→(P.nx i).length < 3) {i:Nat} (hp:P.pr i=true):left P i=true:=by
 refine left_iff.2 ⟨P.pr,fun k hk hl=>⟨hl,?_⟩,hp⟩
 unfold stands
 rw[zDt (h k hk)];rfl
theorem left_wider {P Q:Pan} (hn:P.n=Q.n) (hp:∀ i,i < P.n→P.pr i=Q.pr i) (hv:∀ i,P.val i=Q.val i) (hx:∀ i,i < P.n→P.nx i=Q.nx i) (hl:P.lim≤Q.lim) {i:Nat} (h:left P i=true) (hi:i < P.n):left Q i=true:=by
 obtain⟨S,hS,h1⟩:=left_iff.1 h
 refine left_iff.2 ⟨S,fun k hk hk2=>?_,h1⟩
 rw[←hn] at hk
 obtain⟨a1,a2⟩:=hS k hk hk2
 refine⟨by rw[←hp k hk];exact a1,?_⟩
 unfold stands at a2 ⊢
 rw[←hx k hk]
 rw[Bool.or_eq_true,decide_eq_true_eq,decide_eq_true_eq] at a2 ⊢
 rcases a2 with a2|a2
 ·exact .inl a2
 ·refine .inr (Nat.le_trans a2 (filter_le _ (fun j _ hq=>?_)))
  rw[Bool.and_eq_true] at hq ⊢
  refine⟨hq.1,?_⟩
  have h2:=hq.2
  unfold agree at h2 ⊢
  rw[decide_eq_true_eq] at h2 ⊢
  rw[←hv k,←hv j]
  omega
end Go.Buddy
namespace Go.Proofs.YtednaajanciabaaGreatDoor
open Go.RowKit Go.Grid Go.Buddy
structure PanAt (w:World) (g VB NB LB:Nat) (P:Pan) (S:Nat→Bool):Prop where
 c0:w.cell? ⟨g,0,none⟩=some (.slice (some ⟨VB,0,none⟩) P.n P.n)
 c1:w.cell? ⟨g,1,none⟩=some (.slice (some ⟨NB,0,none⟩) P.n P.n)
 c2:w.cell? ⟨g,2,none⟩=some (.slice (some ⟨LB,0,none⟩) P.n P.n)
 c3:w.cell? ⟨g,3,none⟩=some (.int .i64 P.lim)
 val:∀ j,j < P.n→w.cell? ⟨VB,j,none⟩=some (.int .i64 (P.val j))
 nx:∀ i,i < P.n→∃ v,w.cell? ⟨NB,i,none⟩=some v∧QRow w (LB+1) v (P.nx i)
 lf:BRow w LB P.n S
 ne:VB≠LB∧NB≠LB∧g≠LB
theorem PanAt.turn {w w':World} {g VB NB LB:Nat} {P:Pan} {S S':Nat→Bool} (h:PanAt w g VB NB LB P S) (hg:w.grownBy w' (some LB)) (hl:BRow w' LB P.n S'):PanAt w' g VB NB LB P S':=by
 obtain⟨h1,h2,h3⟩:=h.ne
 have hk:∀ b j v,b≠LB→w.cell? ⟨b,j,none⟩=some v→w'.cell? ⟨b,j,none⟩=some v:=fun b j v hb e=>hg.cell e (by simp;exact hb)
 refine⟨hk _ _ _ h3 h.c0,hk _ _ _ h3 h.c1,hk _ _ _ h3 h.c2,hk _ _ _ h3 h.c3,fun j hj=>hk _ _ _ h1 (h.val j hj),fun i hi=>?_,hl,h.ne⟩
 obtain⟨v,hv,hq⟩:=h.nx i hi
 exact⟨v,hk _ _ _ h2 hv,hq.kept hg (fun k hk=>by injection hk with hk;omega)⟩
theorem PanAt.below {w w':World} {g VB NB LB:Nat} {P:Pan} {S:Nat→Bool} (h:PanAt w g VB NB LB P S) (hb:Below w.heap.size w w') (hlt:LB < w.heap.size):PanAt w' g VB NB LB P S:=
 h.turn (grw_below hb _) (h.lf.of_block (hb.block _ hlt))
structure PanOk (P:Pan):Prop where
 n:P.n≤100000
 val:∀ j,j < P.n→-1000000000≤P.val j∧P.val j≤1000000000
 nx:∀ i,i < P.n→(P.nx i).length≤100000
 cl:closed P
theorem stands_any (g VB NB LB:Nat) (P:Pan) (S:Nat→Bool) (hP:PanOk P) (i:Nat) (hi:i < P.n) (w:World) (h:PanAt w g VB NB LB P S) :
  Calls Tryz.prog 68 #[.pointer (some ⟨g,0,none⟩),.int .i64 (i:Int)] w fun e w'=>e=.returned (.bool (Go.Buddy.stands P S i))∧Below w.heap.size w w':=by
 obtain⟨v,hv,hq⟩:=h.nx i hi
 have HN:=hP.nx i hi
 obtain⟨p,cap,rfl,hcap,hV⟩:=hq.rd
 rw[natI_len] at hv hcap
 obtain⟨c0,c1,c2,c3,cv,_,hL,_⟩:=h
 have cvi:=cv i hi
 have hbi:=hP.val i hi
 have HCV:=zN cv
 have HBR:=zN hL
 have HP:=zN hP
 have HV:=zN hV
 have HST:Hid (Go.Buddy.stands P S i=(decide ((P.nx i).length < 3) || decide (2≤((P.nx i).filter (fun k=>S k && agree P i k)).length))):=zN rfl
 have HCL:=zN (hP.cl i hi)
 have hi0:(0:Int)≤(i:Int):=by omega
 have hi1:(i:Int) < (P.n:Int):=by omega
 obtain⟨D,hD⟩:∃ D,D=P.nx i:=⟨_,rfl⟩
 rw[←hD] at hv HN HV HST HCL
 obtain⟨m,hm⟩:∃ m,m=P.n:=⟨_,rfl⟩
 rw[←hm] at c0 c1 c2 hi1
 have HM:=zN hm
 obtain⟨a,ha⟩:∃ a,a=P.val i:=⟨_,rfl⟩
 rw[←ha] at cvi hbi
 have HA:=zN ha
 obtain⟨lim,hlim⟩:∃ l,l=P.lim:=⟨_,rfl⟩
 rw[←hlim] at c3
 have HLM:=zN hlim
 have HB0:=zN (zBr w.heap.size w)
 obtain⟨dl,hdl⟩:∃ dl,dl=D.length:=⟨_,rfl⟩
 rw[←hdl] at hv HN
 have HDL:=zN hdl.symm
 clear hq hP hi hV cv hL hcap hD hm ha hlim hdl
 by_cases h3:dl < 3
 ·have hd3:decide ((dl:Int) < 3)=true:=zDt (by omega)
  have HR:Hid (Go.Buddy.stands P S i=true):=zN (by rw[HST.out,HDL.out,zDt h3];rfl)
  go_enter Tryz.func68,Tryz.ntmps68
  go_wp2
  go_ret
  exact⟨by rw[HR.out];rfl,HB0.out⟩
 ·have hd3:decide ((dl:Int) < 3)=false:=zDf (by omega)
  have HR:Hid (Go.Buddy.stands P S i=decide (2≤(D.filter (fun k=>S k && agree P i k)).length)):=zN (by rw[HST.out,HDL.out,zDf h3];rfl)
  clear HST
  go_enter Tryz.func68,Tryz.ntmps68
  go_wp2
  go_loopw [25,5] (fun v25 v5 wr=>∃ j q:Nat,j≤dl∧q≤j∧v25=.int .i64 (j:Int)∧v5=.int .i64 (q:Int)∧Hid (((D.take j).filter (fun k=>S k && agree P i k)).length=q)∧Below w.heap.size w wr) (fun v25 _ _=>dl-(intOf v25).toNat)
  case atStart=>exact⟨0,0,by omega,by omega,rfl,rfl,zN rfl,HB0.out⟩
  case round=>
   obtain⟨j,q,hjd,hqj,rfl,rfl,HQ,hb⟩:=hrel
   by_cases hj:j < dl
   ·have hdj:decide ((j:Int) < (dl:Int))=true:=zDt (by omega)
    have hj0:(0:Int)≤(j:Int):=by omega
    have hj1:(j:Int) < (dl:Int):=by omega
    have hjD:j < D.length:=by rw[HDL.out];exact hj
    obtain⟨bb,o,rfl,hbl,hrp⟩:=HV.out.cell (by rw[natI_len];omega)
    have n1:=zP hb (hrp j (by rw[natI_len];exact hjD))
    have en:(natI D)[j]'(by rw[natI_len];exact hjD)=(D[j]:Int):=by simp[natI]
    rw[en] at n1
    have hkm:D[j] < P.n:=HCL.out _ (List.getElem_mem hjD)
    have k2:=zP hb.drew (HBR.out.cell hkm)
    have kv:=zP hb.drew (HCV.out _ hkm)
    have hbk:=HP.out.val _ hkm
    have HF:Hid ((D.take (j+1)).filter (fun k=>S k && agree P i k)=(D.take j).filter (fun k=>S k && agree P i k) ++ if (S D[j] && agree P i D[j])=true then [D[j]] else []):=zN (by
     rw[List.take_succ_eq_append_getElem hjD,List.filter_append]
     congr 1
     by_cases e:(S D[j] && agree P i D[j])=true
     ·rw[if_pos e];simp[e]
     ·rw[if_neg e];simp[e])
    have HAG:Hid (agree P i D[j]=decide (max (a-P.val D[j]) (P.val D[j]-a)≤lim)):=zN (by rw[HA.out,HLM.out];rfl)
    have hkm2:(D[j]:Int) < (m:Int):=by rw[HM.out];omega
    have hkm0:(0:Int)≤(D[j]:Int):=by omega
    generalize D[j]=k at *
    have z0:=zP hb.drew c0
    have z1:=zP hb.drew c1
    have z2:=zP hb.drew c2
    have z3:=zP hb.drew c3
    have zv:=zP hb.drew cvi
    have HB:=zN hb
    obtain⟨b,hbe⟩:∃ b,b=P.val k:=⟨_,rfl⟩
    rw[←hbe] at kv hbk HAG
    obtain⟨sk,hsk⟩:∃ sk,sk=S k:=⟨_,rfl⟩
    rw[←hsk] at k2 HF
    have hSS:=And.intro z0 (And.intro z2 (And.intro z3 (And.intro zv (And.intro k2 kv))))
    clear hb hrp en hkm hbe hsk z0 z1 z2 z3 zv k2 kv
    cases sk with
    |false=>
     have HQ2:Hid (((D.take (j+1)).filter (fun k=>S k && agree P i k)).length=q):=zN (by rw[HF.out,Bool.false_and,if_neg (by simp),List.append_nil];exact HQ.out)
     go_wp2_with fail
     refine RX.region RX.fN (fun w'=>w'=wr.drew) (by kernel_rfl) (by kernel_rfl) (rfl) (fun OPS HO QR hQR=>?_)
     repeat (refine zeX (fun R hR=>?_);(first|refine zaX (by first|rfl|(rw[HO.out];rfl)) (by simp only[zA,zB,zC,zD];rfl) ?_|refine zbX (by first|rfl|(rw[HO.out];rfl)) rfl (by first|exact .inl rfl|exact .inr rfl) (by simp only[zE,zF,zG,zH];rfl) (by simp only[zA,zB,zC,zD];rfl) ?_|refine zcX (by first|rfl|(rw[HO.out];rfl)) rfl rfl (by simp only[zE,zF,zG,zH];rfl) (by simp only[zA,zB,zC,zD];rfl) ?_|(refine zdX (by first|rfl|(rw[HO.out];rfl)) rfl rfl rfl ?_;apply zEx;apply zEx;refine⟨fun w' hS K hK=>?_,?_,?_⟩;(focus ((subst hS;obtain⟨x0,x2,x3,xv,xk,xw⟩:=hSS);go_wp2;exact hK _ _ (by simp only[zl,zG,zH];first|exact zf (by omega)|exact zg (by omega)|exact zh (by omega)|exact zi (by omega)|exact zj (by omega)|exact zk (by omega)|exact RX.bneB _|rfl) rfl));(focus (simp only[zA,zB,zC,zD];rfl))));refine hR _ _ ?_;clear hR R)
     refine RX.wpL_nil (hQR _ _ (rfl) ?_);clear hQR QR HO OPS
     go_wp2
     go_roundw
     case rel=>exact⟨j+1,q,by omega,by omega,by go_num,rfl,HQ2,HB.out.drew⟩
     case measure=>simp[intOf]<;>omega
    |true=>
     by_cases hag:max (a-b) (b-a)≤lim
     ·have hda:decide (max (a-b) (b-a)≤lim)=true:=zDt hag
      have HQ2:Hid (((D.take (j+1)).filter (fun k=>S k && agree P i k)).length=q+1):=zN (by rw[HF.out,HAG.out,hda,Bool.true_and,if_pos rfl,List.length_append,HQ.out];rfl)
      clear hag
      go_wp2_with fail
      refine RX.region RX.fN (fun w'=>w'=wr.drew) (by kernel_rfl) (by kernel_rfl) (rfl) (fun OPS HO QR hQR=>?_)
      repeat (refine zeX (fun R hR=>?_);(first|refine zaX (by first|rfl|(rw[HO.out];rfl)) (by simp only[zA,zB,zC,zD];rfl) ?_|refine zbX (by first|rfl|(rw[HO.out];rfl)) rfl (by first|exact .inl rfl|exact .inr rfl) (by simp only[zE,zF,zG,zH];rfl) (by simp only[zA,zB,zC,zD];rfl) ?_|refine zcX (by first|rfl|(rw[HO.out];rfl)) rfl rfl (by simp only[zE,zF,zG,zH];rfl) (by simp only[zA,zB,zC,zD];rfl) ?_|(refine zdX (by first|rfl|(rw[HO.out];rfl)) rfl rfl rfl ?_;apply zEx;apply zEx;refine⟨fun w' hS K hK=>?_,?_,?_⟩;(focus ((subst hS;obtain⟨x0,x2,x3,xv,xk,xw⟩:=hSS);go_wp2;exact hK _ _ (by simp only[zl,zG,zH];first|exact zf (by omega)|exact zg (by omega)|exact zh (by omega)|exact zi (by omega)|exact zj (by omega)|exact zk (by omega)|exact RX.bneB _|rfl) rfl));(focus (simp only[zA,zB,zC,zD];rfl))));refine hR _ _ ?_;clear hR R)
      refine RX.wpL_nil (hQR _ _ (rfl) ?_);clear hQR QR HO OPS
      go_wp2
      go_roundw
      case rel=>exact⟨j+1,q+1,by omega,by omega,by go_num,by go_num,HQ2,HB.out.drew⟩
      case measure=>simp[intOf]<;>omega
     ·have hda:decide (max (a-b) (b-a)≤lim)=false:=zDf hag
      have HQ2:Hid (((D.take (j+1)).filter (fun k=>S k && agree P i k)).length=q):=zN (by rw[HF.out,HAG.out,hda,Bool.true_and,if_neg (by simp),List.append_nil];exact HQ.out)
      clear hag
      go_wp2_with fail
      refine RX.region RX.fN (fun w'=>w'=wr.drew) (by kernel_rfl) (by kernel_rfl) (rfl) (fun OPS HO QR hQR=>?_)
      repeat (refine zeX (fun R hR=>?_);(first|refine zaX (by first|rfl|(rw[HO.out];rfl)) (by simp only[zA,zB,zC,zD];rfl) ?_|refine zbX (by first|rfl|(rw[HO.out];rfl)) rfl (by first|exact .inl rfl|exact .inr rfl) (by simp only[zE,zF,zG,zH];rfl) (by simp only[zA,zB,zC,zD];rfl) ?_|refine zcX (by first|rfl|(rw[HO.out];rfl)) rfl rfl (by simp only[zE,zF,zG,zH];rfl) (by simp only[zA,zB,zC,zD];rfl) ?_|(refine zdX (by first|rfl|(rw[HO.out];rfl)) rfl rfl rfl ?_;apply zEx;apply zEx;refine⟨fun w' hS K hK=>?_,?_,?_⟩;(focus ((subst hS;obtain⟨x0,x2,x3,xv,xk,xw⟩:=hSS);go_wp2;exact hK _ _ (by simp only[zl,zG,zH];first|exact zf (by omega)|exact zg (by omega)|exact zh (by omega)|exact zi (by omega)|exact zj (by omega)|exact zk (by omega)|exact RX.bneB _|rfl) rfl));(focus (simp only[zA,zB,zC,zD];rfl))));refine hR _ _ ?_;clear hR R)
      refine RX.wpL_nil (hQR _ _ (rfl) ?_);clear hQR QR HO OPS
      go_wp2
      go_roundw
      case rel=>exact⟨j+1,q,by omega,by omega,by go_num,rfl,HQ2,HB.out.drew⟩
      case measure=>simp[intOf]<;>omega
   ·have hdj:decide ((j:Int) < (dl:Int))=false:=zDf (by omega)
    obtain rfl:j=dl:=by omega
    have HF:Hid (Go.Buddy.stands P S i=decide (2≤q)):=zN (by
     have h:=HQ.out
     rw[List.take_of_length_le (by rw[HDL.out];exact Nat.le_refl _)] at h
     rw[HR.out,h])
    have HB:=zN hb
    clear hb
    by_cases h2:2≤q
    ·have hd2:decide ((2:Int)≤(q:Int))=true:=zDt (by omega)
     have HF2:Hid (Go.Buddy.stands P S i=true):=zN (by rw[HF.out,zDt h2])
     go_wp2
     go_ret
     exact⟨by rw[HF2.out];rfl,HB.out⟩
    ·have hd2:decide ((2:Int)≤(q:Int))=false:=zDf (by omega)
     have HF2:Hid (Go.Buddy.stands P S i=false):=zN (by rw[HF.out,zDf h2])
     go_wp2
     go_ret
     exact⟨by rw[HF2.out];rfl,HB.out⟩
def cntB:Nat→(Nat→Bool)→Nat
 |0,_=>0
 |n+1,f=>cntB n f+(if f n=true then 1 else 0)
theorem cntB_congr:∀ (n:Nat) {f g:Nat→Bool},(∀ j,j < n→f j=g j)→cntB n f=cntB n g
 |0,_,_,_=>rfl
 |n+1,f,g,h=>by
  unfold cntB
  rw[cntB_congr n (fun j hj=>h j (by omega)),h n (by omega)]
def offB (S:Nat→Bool) (i:Nat):Nat→Bool:=fun j=>if j=i then false else S j
theorem cntB_off:∀ (n:Nat) {S:Nat→Bool} {i:Nat},i < n→S i=true→cntB n (offB S i)+1=cntB n S
 |0,_,_,h,_=>by omega
 |n+1,S,i,h,hs=>by
  unfold cntB
  by_cases e:i=n
  ·subst e
   rw[cntB_congr i (f:=offB S i) (g:=S) (fun j hj=>by unfold offB;rw[if_neg (by omega)])]
   have e1:offB S i i=false:=by unfold offB;rw[if_pos rfl]
   rw[e1,hs];simp
  ·have ih:=cntB_off n (S:=S) (i:=i) (by omega) hs
   have e1:offB S i n=S n:=by unfold offB;rw[if_neg (Ne.symm e)]
   rw[e1];omega
def celB (w:World) (LB:Nat):Nat→Bool:=fun j=>match w.cell? ⟨LB,j,none⟩ with
 |some (.bool b)=>b
 |_=>false
theorem celB_eq {w:World} {LB n:Nat} {S:Nat→Bool} (h:BRow w LB n S):cntB n (celB w LB)=cntB n S:=
 cntB_congr n (fun j hj=>by unfold celB;rw[h.cell hj])
def valB:Value→Nat
 |.bool true=>1
 |_=>0
theorem keeps_off {P:Pan} {S:Nat→Bool} (h:Keeps P S) (hc:closed P) {i:Nat} (hs:Go.Buddy.stands P S i=false):Keeps P (offB S i):=
 h.drop hc (fun j _ hj=>by unfold offB at hj;by_cases e:j=i;(rw[if_pos e] at hj;cases hj);(rw[if_neg e] at hj;exact hj)) (fun j _ h1 h2=>by
  unfold offB at h2
  by_cases e:j=i
  ·rw[e];exact hs
  ·rw[if_neg e,h1] at h2;cases h2)
structure JInv (w:World) (g VB NB LB:Nat) (P:Pan) (S S0:Nat→Bool) (more:Bool) (i:Nat):Prop where
 pan:PanAt w g VB NB LB P S
 keep:Keeps P S
 no:more=false→S=S0∧∀ j,j < i→S j=true→Go.Buddy.stands P S j=true
 yes:more=true→cntB P.n S < cntB P.n S0
theorem judge_any (g VB NB LB:Nat) (P:Pan) (S:Nat→Bool) (hP:PanOk P) (hK:Keeps P S) (w:World) (h:PanAt w g VB NB LB P S) :
  Calls Tryz.prog 43 #[.pointer (some ⟨g,0,none⟩)] w fun e w'=>e=.returned (.tuple #[])∧PanAt w' g VB NB LB P (Go.Buddy.left P)∧w.grownBy w' (some LB):=by
 have HP:=zN hP
 have HK:=zN hK
 have H0:=zN h
 obtain⟨n,hn⟩:∃ n,n=P.n:=⟨_,rfl⟩
 have HN:=zN hn
 have hn9:n≤100000:=by rw[hn];exact hP.n
 clear hP hK h hn
 go_enter Tryz.func43,Tryz.ntmps43
 go_wp2
 go_loopw [2] (fun v2 wr=>∃ (S:Nat→Bool) (more:Bool),v2=.bool more∧Hid (PanAt wr g VB NB LB P S∧Keeps P S∧(more=false→∀ i,i < P.n→S i=true→Go.Buddy.stands P S i=true))∧Hid (w.grownBy wr (some LB))) (fun v2 wr=>2*cntB n (celB wr LB)+valB v2)
 case atStart=>exact⟨S,true,rfl,zN ⟨H0.out,HK.out,fun e=>by cases e⟩,zN (grw_refl _ _)⟩
 case round=>
  clear H0 HK
  obtain⟨S0,more,rfl,HH,HG⟩:=hrel
  cases more with
  |false=>
   have HF:Hid (PanAt wr g VB NB LB P (Go.Buddy.left P)):=zN (by
    obtain⟨a1,a2,a3⟩:=HH.out
    exact a1.turn (grw_refl _ _) (a1.lf.congr (fun i hi=>a2.fin (a3 rfl) i hi)))
   go_wp2
   go_end0
   exact⟨rfl,HF.out,HG.out⟩
  |true=>
   obtain⟨a1,a2,_⟩:=HH.out
   have HC0:=zN (celB_eq a1.lf)
   have c2:=a1.c2
   rw[←HN.out] at c2
   have HA1:=zN a1
   have HA2:=zN a2
   have HGI:Hid (wr.grownBy wr (some LB)):=zN (grw_refl _ _)
   clear a1 a2 HH
   go_wp2
   go_loopw [10,2] (fun v10 v2 wr=>∃ (i:Nat) (S:Nat→Bool) (more:Bool),i≤n∧v10=.int .i64 (i:Int)∧v2=.bool more∧Hid (JInv wr g VB NB LB P S S0 more i)∧Hid (w.grownBy wr (some LB))) (fun v10 _ _=>n-(intOf v10).toNat)
   case atStart=>exact⟨0,S0,false,by omega,rfl,rfl,zN ⟨HA1.out,HA2.out,(fun _=>⟨rfl,fun j hj=>by omega⟩),(fun e=>by cases e)⟩,HG⟩
   case round=>
    clear HA1 HA2
    obtain⟨i,S,more,hin,rfl,rfl,HH,HG2⟩:=hrel
    obtain⟨a1,a2,a3,a4⟩:=HH.out
    by_cases hi:i < n
    ·have hdi:decide ((i:Int) < (n:Int))=true:=zDt (by omega)
     have hi0:(0:Int)≤(i:Int):=by omega
     have hi1:(i:Int) < (n:Int):=by omega
     have hiP:i < P.n:=by rw[←HN.out];exact hi
     have hc2:=a1.c2
     rw[←HN.out] at hc2
     have hci:=a1.lf.cell hiP
     have HLF:=zN a1.lf
     have HC:=zN (stands_any g VB NB LB P S HP.out i hiP wr a1)
     obtain⟨si,hsi⟩:∃ si,si=S i:=⟨_,rfl⟩
     rw[←hsi] at hci
     have HSI:=zN hsi.symm
     clear a1 a2 a3 a4 hiP hsi
     cases si with
     |false=>
      have HR:Hid (JInv wr g VB NB LB P S S0 more (i+1)):=zN (by
       obtain⟨a1,a2,a3,a4⟩:=HH.out
       refine⟨a1,a2,fun e=>⟨(a3 e).1,fun j hj hs=>?_⟩,a4⟩
       by_cases e2:j=i
       ·rw[e2,HSI.out] at hs;cases hs
       ·exact (a3 e).2 j (by omega) hs)
      clear HC HH
      go_wp2
      go_roundw
      case rel=>exact⟨i+1,S,more,by omega,by go_num,rfl,HR,HG2⟩
      case measure=>simp[intOf]<;>omega
     |true=>
      obtain⟨st,hst⟩:∃ st,st=Go.Buddy.stands P S i:=⟨_,rfl⟩
      rw[←hst] at HC
      have HSD:=zN hst.symm
      clear hst
      go_wp2_with fail
      refine HC.out.mono ?_
      rintro e w2 ⟨rfl,hb2⟩
      have hlt:=HLF.out.lt
      have HR1:Hid (JInv w2 g VB NB LB P S S0 more i):=zN (by
       obtain⟨a1,a2,a3,a4⟩:=HH.out
       exact⟨a1.below hb2 hlt,a2,a3,a4⟩)
      have HG3:Hid (w.grownBy w2 (some LB)):=zN (HG2.out.trans (grw_below hb2 _))
      have z2:=zP hb2 hc2
      have zi:=zP hb2 hci
      have zf:w2.frozen? ⟨LB,i,none⟩=false:=HR1.out.pan.lf.frozen i
      clear HC HH hb2 hc2 hci hlt
      cases st with
      |true=>
       have HR:Hid (JInv w2 g VB NB LB P S S0 more (i+1)):=zN (by
        obtain⟨a1,a2,a3,a4⟩:=HR1.out
        refine⟨a1,a2,fun e=>⟨(a3 e).1,fun j hj hs=>?_⟩,a4⟩
        by_cases e2:j=i
        ·rw[e2];exact HSD.out
        ·exact (a3 e).2 j (by omega) hs)
       go_wp2
       go_roundw
       case rel=>exact⟨i+1,S,more,by omega,by go_num,rfl,HR,HG3⟩
       case measure=>simp[intOf]<;>omega
      |false=>
       have HR:Hid (JInv (w2.setCell ⟨LB,i,none⟩ (.bool false)) g VB NB LB P (offB S i) S0 true (i+1)):=zN (by
        obtain⟨a1,a2,a3,a4⟩:=HR1.out
        refine⟨a1.turn (grownBy_setCell _ _ _ _) (a1.lf.set i false),keeps_off a2 HP.out.cl HSD.out,(fun e=>by cases e),fun _=>?_⟩
        have h1:=cntB_off P.n (by rw[←HN.out];exact hi) HSI.out
        cases more with
        |true=>have:=a4 rfl;omega
        |false=>rw[←(a3 rfl).1];omega)
       have HG4:Hid (w.grownBy (w2.setCell ⟨LB,i,none⟩ (.bool false)) (some LB)):=zN (HG3.out.trans (grownBy_setCell _ _ _ _))
       clear HR1 HG3
       go_wp2
       go_roundw
       case rel=>exact⟨i+1,offB S i,true,by omega,by go_num,rfl,HR,HG4⟩
       case measure=>simp[intOf]<;>omega
    ·have hdi:decide ((i:Int) < (n:Int))=false:=zDf (by omega)
     obtain rfl:i=n:=by omega
     have HR:Hid (PanAt wr g VB NB LB P S∧Keeps P S∧(more=false→∀ j,j < P.n→S j=true→Go.Buddy.stands P S j=true)):=zN ⟨a1,a2,(fun e j hj hs=>(a3 e).2 j (by rw[HN.out];exact hj) hs)⟩
     have HM:Hid (2*cntB i (celB wr LB)+valB (.bool more) < 2*cntB i S0+1):=zN (by
      have e:=celB_eq a1.lf
      rw[←HN.out] at e
      rw[e]
      cases more with
      |true=>have:=a4 rfl;rw[←HN.out] at this;show 2*cntB i S+1 < _;omega
      |false=>rw[(a3 rfl).1];show 2*cntB i S0+0 < _;omega)
     clear a1 a2 a3 a4 HH
     go_wp2
     go_roundw
     case rel=>exact⟨S,more,rfl,HR,HG2⟩
     case measure=>
      have h1:=HM.out
      have h2:=HC0.out
      rw[←HN.out] at h2
      rw[h2]
      exact h1
open Go.RowKit Go.Grid
theorem index_int (p:Option Addr) (L:List Int) (cap n:Nat) (w:World) (hl:L.length=n) (hV:VecAt w p L) (hn:n≤1000000000) (g:FuncId) (t:Int→Bool)
  (hen:∀ args w,(callFunc g args).run Tryz.prog w=.ok (.enter g args) w)
  (hq:∀ x∈L,∀ w',Below w.heap.size w w'→Calls Tryz.prog g #[.int .i64 x] w' fun e w''=>e=.returned (.bool (t x))∧Below w'.heap.size w' w'') :
  Calls Tryz.prog 57 #[.slice p n cap,.func (.func g) #[] #[]] w fun e w'=>∃ r:Int,e=.returned (.int .i64 r)∧-1≤r∧decide (0≤r)=L.any t∧Below w.heap.size w w':=by
 have HQ:=zN hq
 have HV:=zN hV
 have HL:=zN hl
 clear hq hV hl
 go_enter Tryz.func57,Tryz.ntmps57
 go_wp2
 go_loopw [8] (fun a wr=>∃ k:Nat,k≤n∧a=.int .i64 (k:Int)∧Hid (∀ j (hj:j < k) (h:j < L.length),t L[j]=false)∧Below w.heap.size w wr) (fun a _=>n-(intOf a).toNat)
 case atStart=>exact⟨0,Nat.zero_le _,rfl,zN fun j hj=>by omega,zBr _ _⟩
 case round=>
  obtain⟨k,hk,rfl,HI,hb⟩:=hrel
  by_cases hlt:k < n
  ·have hltL:k < L.length:=by rw[HL.out];exact hlt
   obtain⟨b,o,rfl,hbl,hcell⟩:=HV.out.cell (by omega)
   have ck:=zP hb (hcell k hltL)
   have hdk:decide ((k:Int) < (n:Int))=true:=zDt (by omega)
   have hk0:(0:Int)≤(k:Int):=by omega
   have hkI:(k:Int) < (n:Int):=by omega
   have HK:=zN (HQ.out L[k] (List.getElem_mem _) wr hb)
   obtain⟨x,hx⟩:∃ x,x=L[k]:=⟨_,rfl⟩
   rw[←hx] at ck HK
   have HX:=zN hx
   clear hx hcell
   go_wp2_with fail
   refine HK.out.mono ?_
   rintro e w1 ⟨rfl,hb1⟩
   have hb2:Below w.heap.size w w1:=hb.trans (hb1.mono hb.size)
   clear hb hb1 HK ck
   cases he:t x
   ·have HE:=zN he
    clear he
    go_wp2
    go_roundw
    case rel=>exact⟨k+1,by omega,by go_num,zN fun j hj hd=>by
     by_cases hjk:j=k
     ·subst hjk;rw[←HX.out];exact HE.out
     ·exact HI.out j (by omega) hd,hb2⟩
    case measure=>simp[intOf];omega
   ·have HE:=zN he
    clear he
    go_wp2
    go_ret
    refine⟨(k:Int),rfl,by omega,?_,hb2⟩
    have h1:L.any t=true:=List.any_eq_true.2 ⟨L[k],List.getElem_mem _,by rw[←HX.out];exact HE.out⟩
    rw[h1];exact zDt (by omega)
  ·obtain rfl:k=n:=by omega
   have hdk:decide ((k:Int) < (k:Int))=false:=zDf (by omega)
   go_wp2
   go_ret
   refine⟨-1,rfl,by omega,?_,hb⟩
   have h1:L.any t=false:=List.any_eq_false.2 (fun x hx=>by
    obtain⟨j,hj,rfl⟩:=List.getElem_of_mem hx
    rw[HI.out j (by rw[HL.out] at hj;exact hj) hj];simp)
   rw[h1];rfl
theorem contains_int (p:Option Addr) (L:List Int) (cap n:Nat) (w:World) (hl:L.length=n) (hV:VecAt w p L) (hn:n≤1000000000) (g:FuncId) (t:Int→Bool)
  (hen:∀ args w,(callFunc g args).run Tryz.prog w=.ok (.enter g args) w)
  (hq:∀ x∈L,∀ w',Below w.heap.size w w'→Calls Tryz.prog g #[.int .i64 x] w' fun e w''=>e=.returned (.bool (t x))∧Below w'.heap.size w' w'') :
  Calls Tryz.prog 37 #[.slice p n cap,.func (.func g) #[] #[]] w fun e w'=>e=.returned (.bool (L.any t))∧Below w.heap.size w w':=by
 have HI:=zN (index_int p L cap n w hl hV hn g t hen hq)
 clear hl hV hq hen
 go_enter Tryz.func37,Tryz.ntmps37
 go_wp2_with fail
 refine HI.out.mono ?_
 rintro e w1 ⟨r,rfl,hr,hd,hb⟩
 clear HI
 by_cases h0:0≤r
 ·have h1:L.any t=true:=by rw[←hd];exact zDt h0
  have H1:=zN h1
  clear hd h1
  go_wp2
  go_ret
  exact⟨by rw[H1.out];simp[h0],hb⟩
 ·have h1:L.any t=false:=by rw[←hd];exact zDf h0
  have H1:=zN h1
  clear hd h1
  go_wp2
  go_ret
  exact⟨by rw[H1.out];simp[h0],hb⟩
structure Ctl where
 hops:Int
 st:Nat→Int
 sp:Nat→Int
 th:Int
 bd:Nat→Int
 fr:Int
 en:Int
 lv:Int
def ctv (k:Ctl):Value:=.agg #[.int .i64 k.hops,.int .i64 (k.st 0),.int .i64 (k.st 1),.int .i64 (k.st 2),.int .i64 (k.st 3),.int .i64 (k.st 4),.int .i64 (k.st 5),.int .i64 (k.st 6),.int .i64 (k.st 7),.int .i64 (k.st 8),.int .i64 (k.st 9),.int .i64 (k.st 10),.int .i64 (k.st 11),.int .i64 (k.sp 0),.int .i64 (k.sp 1),.int .i64 (k.sp 2),.int .i64 (k.sp 3),.int .i64 (k.sp 4),.int .i64 (k.sp 5),.int .i64 (k.sp 6),.int .i64 (k.sp 7),.int .i64 (k.sp 8),.int .i64 (k.sp 9),.int .i64 (k.sp 10),.int .i64 (k.sp 11),.int .i64 k.th,.int .i64 (k.bd 0),.int .i64 (k.bd 1),.int .i64 (k.bd 2),.int .i64 (k.bd 3),.int .i64 (k.bd 4),.int .i64 (k.bd 5),.int .i64 (k.bd 6),.int .i64 (k.bd 7),.int .i64 (k.bd 8),.int .i64 (k.bd 9),.int .i64 (k.bd 10),.int .i64 (k.bd 11),.int .i64 k.fr,.int .i64 k.en,.int .i64 k.lv]
theorem freqB_any (n:Int) (w:World):Calls Tryz.prog 36 #[.int .i64 n] w fun e w'=>e=.returned (.bool (decide (1≤n∧n≤8)))∧Below w.heap.size w w':=by
 by_cases h1:1≤n
 ·have hd1:decide (1≤n)=true:=zDt h1
  by_cases h8:n≤8
  ·have hd8:decide (n≤8)=true:=zDt h8
   have HF:Hid (decide (1≤n∧n≤8)=true):=zN (zDt ⟨h1,h8⟩)
   rw[HF.out]
   go_enter Tryz.func36,Tryz.ntmps36
   go_wp2
   go_ret
   exact⟨rfl,zBr _ _⟩
  ·have hd8:decide (n≤8)=false:=zDf h8
   have HF:Hid (decide (1≤n∧n≤8)=false):=zN (zDf (fun h=>h8 h.2))
   rw[HF.out]
   clear h8
   go_enter Tryz.func36,Tryz.ntmps36
   go_wp2
   go_ret
   exact⟨rfl,zBr _ _⟩
 ·have hd1:decide (1≤n)=false:=zDf h1
  have HF:Hid (decide (1≤n∧n≤8)=false):=zN (zDf (fun h=>h1 h.1))
  rw[HF.out]
  clear h1
  go_enter Tryz.func36,Tryz.ntmps36
  go_wp2
  go_ret
  exact⟨rfl,zBr _ _⟩
theorem lim_any (n:Int) (w:World):Calls Tryz.prog 38 #[.int .i64 n] w fun e w'=>e=.returned (.bool (decide (n < 0∨10000 < n)))∧Below w.heap.size w w':=by
 by_cases h1:n < 0
 ·have hd1:decide (n < 0)=true:=zDt h1
  have HF:Hid (decide (n < 0∨10000 < n)=true):=zN (zDt (.inl h1))
  rw[HF.out]
  go_enter Tryz.func38,Tryz.ntmps38
  go_wp2
  go_ret
  exact⟨rfl,zBr _ _⟩
 ·have hd1:decide (n < 0)=false:=zDf h1
  by_cases h8:10000 < n
  ·have hd8:decide (10000 < n)=true:=zDt h8
   have HF:Hid (decide (n < 0∨10000 < n)=true):=zN (zDt (.inr h8))
   rw[HF.out]
   clear h1
   go_enter Tryz.func38,Tryz.ntmps38
   go_wp2
   go_ret
   exact⟨rfl,zBr _ _⟩
  ·have hd8:decide (10000 < n)=false:=zDf h8
   have HF:Hid (decide (n < 0∨10000 < n)=false):=zN (zDf (fun h=>by omega))
   rw[HF.out]
   clear h1 h8
   go_enter Tryz.func38,Tryz.ntmps38
   go_wp2
   go_ret
   exact⟨rfl,zBr _ _⟩
def zB (f:Nat→Int):Bool:=(List.range 12).all (fun c=>f c == 0)
theorem eq12 (f:Nat→Int) (w:World):(Op.equalIn 10000 27 (.agg #[.int .i64 (f 0),.int .i64 (f 1),.int .i64 (f 2),.int .i64 (f 3),.int .i64 (f 4),.int .i64 (f 5),.int .i64 (f 6),.int .i64 (f 7),.int .i64 (f 8),.int .i64 (f 9),.int .i64 (f 10),.int .i64 (f 11)]) (.agg #[.int .i64 0,.int .i64 0,.int .i64 0,.int .i64 0,.int .i64 0,.int .i64 0,.int .i64 0,.int .i64 0,.int .i64 0,.int .i64 0,.int .i64 0,.int .i64 0])).run Tryz.prog w=.ok (zB f) w:=by
 have hco:Tryz.prog.cellsOf 3=1:=by kernel_rfl
 obtain⟨i,hi⟩:=info_of_underlying Tryz.underlying3
 unfold zB
 rw[show (10000:Nat)=9999+1 from rfl,run_equalIn_array w 9999 (n:=12) (e:=3) _ _ Tryz.underlying27 hi]
 simp[Op.eqItems,go_sem,Tryz.underlying3,hco,List.range,List.range.loop]
 (repeat' split)<;>simp_all
theorem idx12_0 (f:Nat→Int) (w:World):(Instr.index 27 (.agg #[.int .i64 (f 0),.int .i64 (f 1),.int .i64 (f 2),.int .i64 (f 3),.int .i64 (f 4),.int .i64 (f 5),.int .i64 (f 6),.int .i64 (f 7),.int .i64 (f 8),.int .i64 (f 9),.int .i64 (f 10),.int .i64 (f 11)]) (.int .i64 ((0:Nat):Int))).run Tryz.prog w=.ok (.int .i64 (f 0)) w:=by kernel_rfl
theorem idx12_1 (f:Nat→Int) (w:World):(Instr.index 27 (.agg #[.int .i64 (f 0),.int .i64 (f 1),.int .i64 (f 2),.int .i64 (f 3),.int .i64 (f 4),.int .i64 (f 5),.int .i64 (f 6),.int .i64 (f 7),.int .i64 (f 8),.int .i64 (f 9),.int .i64 (f 10),.int .i64 (f 11)]) (.int .i64 ((1:Nat):Int))).run Tryz.prog w=.ok (.int .i64 (f 1)) w:=by kernel_rfl
theorem idx12_2 (f:Nat→Int) (w:World):(Instr.index 27 (.agg #[.int .i64 (f 0),.int .i64 (f 1),.int .i64 (f 2),.int .i64 (f 3),.int .i64 (f 4),.int .i64 (f 5),.int .i64 (f 6),.int .i64 (f 7),.int .i64 (f 8),.int .i64 (f 9),.int .i64 (f 10),.int .i64 (f 11)]) (.int .i64 ((2:Nat):Int))).run Tryz.prog w=.ok (.int .i64 (f 2)) w:=by kernel_rfl
theorem idx12_3 (f:Nat→Int) (w:World):(Instr.index 27 (.agg #[.int .i64 (f 0),.int .i64 (f 1),.int .i64 (f 2),.int .i64 (f 3),.int .i64 (f 4),.int .i64 (f 5),.int .i64 (f 6),.int .i64 (f 7),.int .i64 (f 8),.int .i64 (f 9),.int .i64 (f 10),.int .i64 (f 11)]) (.int .i64 ((3:Nat):Int))).run Tryz.prog w=.ok (.int .i64 (f 3)) w:=by kernel_rfl
theorem idx12_4 (f:Nat→Int) (w:World):(Instr.index 27 (.agg #[.int .i64 (f 0),.int .i64 (f 1),.int .i64 (f 2),.int .i64 (f 3),.int .i64 (f 4),.int .i64 (f 5),.int .i64 (f 6),.int .i64 (f 7),.int .i64 (f 8),.int .i64 (f 9),.int .i64 (f 10),.int .i64 (f 11)]) (.int .i64 ((4:Nat):Int))).run Tryz.prog w=.ok (.int .i64 (f 4)) w:=by kernel_rfl
theorem idx12_5 (f:Nat→Int) (w:World):(Instr.index 27 (.agg #[.int .i64 (f 0),.int .i64 (f 1),.int .i64 (f 2),.int .i64 (f 3),.int .i64 (f 4),.int .i64 (f 5),.int .i64 (f 6),.int .i64 (f 7),.int .i64 (f 8),.int .i64 (f 9),.int .i64 (f 10),.int .i64 (f 11)]) (.int .i64 ((5:Nat):Int))).run Tryz.prog w=.ok (.int .i64 (f 5)) w:=by kernel_rfl
theorem idx12_6 (f:Nat→Int) (w:World):(Instr.index 27 (.agg #[.int .i64 (f 0),.int .i64 (f 1),.int .i64 (f 2),.int .i64 (f 3),.int .i64 (f 4),.int .i64 (f 5),.int .i64 (f 6),.int .i64 (f 7),.int .i64 (f 8),.int .i64 (f 9),.int .i64 (f 10),.int .i64 (f 11)]) (.int .i64 ((6:Nat):Int))).run Tryz.prog w=.ok (.int .i64 (f 6)) w:=by kernel_rfl
theorem idx12_7 (f:Nat→Int) (w:World):(Instr.index 27 (.agg #[.int .i64 (f 0),.int .i64 (f 1),.int .i64 (f 2),.int .i64 (f 3),.int .i64 (f 4),.int .i64 (f 5),.int .i64 (f 6),.int .i64 (f 7),.int .i64 (f 8),.int .i64 (f 9),.int .i64 (f 10),.int .i64 (f 11)]) (.int .i64 ((7:Nat):Int))).run Tryz.prog w=.ok (.int .i64 (f 7)) w:=by kernel_rfl
theorem idx12_8 (f:Nat→Int) (w:World):(Instr.index 27 (.agg #[.int .i64 (f 0),.int .i64 (f 1),.int .i64 (f 2),.int .i64 (f 3),.int .i64 (f 4),.int .i64 (f 5),.int .i64 (f 6),.int .i64 (f 7),.int .i64 (f 8),.int .i64 (f 9),.int .i64 (f 10),.int .i64 (f 11)]) (.int .i64 ((8:Nat):Int))).run Tryz.prog w=.ok (.int .i64 (f 8)) w:=by kernel_rfl
theorem idx12_9 (f:Nat→Int) (w:World):(Instr.index 27 (.agg #[.int .i64 (f 0),.int .i64 (f 1),.int .i64 (f 2),.int .i64 (f 3),.int .i64 (f 4),.int .i64 (f 5),.int .i64 (f 6),.int .i64 (f 7),.int .i64 (f 8),.int .i64 (f 9),.int .i64 (f 10),.int .i64 (f 11)]) (.int .i64 ((9:Nat):Int))).run Tryz.prog w=.ok (.int .i64 (f 9)) w:=by kernel_rfl
theorem idx12_10 (f:Nat→Int) (w:World):(Instr.index 27 (.agg #[.int .i64 (f 0),.int .i64 (f 1),.int .i64 (f 2),.int .i64 (f 3),.int .i64 (f 4),.int .i64 (f 5),.int .i64 (f 6),.int .i64 (f 7),.int .i64 (f 8),.int .i64 (f 9),.int .i64 (f 10),.int .i64 (f 11)]) (.int .i64 ((10:Nat):Int))).run Tryz.prog w=.ok (.int .i64 (f 10)) w:=by kernel_rfl
theorem idx12_11 (f:Nat→Int) (w:World):(Instr.index 27 (.agg #[.int .i64 (f 0),.int .i64 (f 1),.int .i64 (f 2),.int .i64 (f 3),.int .i64 (f 4),.int .i64 (f 5),.int .i64 (f 6),.int .i64 (f 7),.int .i64 (f 8),.int .i64 (f 9),.int .i64 (f 10),.int .i64 (f 11)]) (.int .i64 ((11:Nat):Int))).run Tryz.prog w=.ok (.int .i64 (f 11)) w:=by kernel_rfl
theorem idx12 (f:Nat→Int) (c:Nat) (hc:c < 12) (w:World):(Instr.index 27 (.agg #[.int .i64 (f 0),.int .i64 (f 1),.int .i64 (f 2),.int .i64 (f 3),.int .i64 (f 4),.int .i64 (f 5),.int .i64 (f 6),.int .i64 (f 7),.int .i64 (f 8),.int .i64 (f 9),.int .i64 (f 10),.int .i64 (f 11)]) (.int .i64 (c:Int))).run Tryz.prog w=.ok (.int .i64 (f c)) w:=by
 match c,hc with
 |0,_=>exact idx12_0 f w
 |1,_=>exact idx12_1 f w
 |2,_=>exact idx12_2 f w
 |3,_=>exact idx12_3 f w
 |4,_=>exact idx12_4 f w
 |5,_=>exact idx12_5 f w
 |6,_=>exact idx12_6 f w
 |7,_=>exact idx12_7 f w
 |8,_=>exact idx12_8 f w
 |9,_=>exact idx12_9 f w
 |10,_=>exact idx12_10 f w
 |11,_=>exact idx12_11 f w
def bdL (f:Nat→Int):List Int:=[f 0,f 1,f 2,f 3,f 4,f 5,f 6,f 7,f 8,f 9,f 10,f 11]
def limB (f:Nat→Int):Bool:=(bdL f).any (fun n=>decide (n < 0∨10000 < n))
def chkE (k:Ctl) (L:List BR):Int:=if (1≤k.fr∧k.fr≤8)∧limB k.bd=false then exE L else 1
theorem exE_ok {L:List BR} (h:exE L=0):(∀ x∈L,vaB x.1=true)∧∀ x∈L,valE x.2=0:=by
 unfold exE at h
 cases e:L.find? (fun x=>valE x.2 != 0) with
 |some x=>
  rw[e] at h
  have h2:=List.find?_some e
  rw[bne_iff_ne] at h2
  exact absurd h h2
 |none=>
  rw[e] at h
  have h2:=List.find?_eq_none.1 e
  by_cases ha:L.any (fun x=>!vaB x.1)=true
  ·have hh:(if L.any (fun x=>!vaB x.1)=true then (1:Int) else 0)=0:=h
   rw[if_pos ha] at hh
   exact absurd hh (by decide)
  ·rw[Bool.not_eq_true,List.any_eq_false] at ha
   exact⟨fun x hx=>by simpa using ha x hx,fun x hx=>by simpa using h2 x hx⟩
noncomputable def panB (n:Nat) (L:List BR) (lim:Int) (c:Nat):Pan:=⟨L.length,fun i=>fB (bat L i).2 (c:Int),fun i=>fV (bat L i).2 (c:Int),fun i=>aroL n L (c:Int) i,lim⟩
noncomputable def flC (n:Nat) (L:List BR) (f:Nat→Int) (c:Nat):List Nat:=if f c=0 then [] else (List.range L.length).filter (rej (panB n L (f c) c))
noncomputable def outC (n:Nat) (L:List BR) (f:Nat→Int) (c:Nat):List (Int × Int):=(List.range c).flatMap (fun c=>(flC n L f c).map (fun i:Nat=>((i:Int),(c:Int))))
abbrev flV (F:List (Int × Int)):List Value:=F.flatMap (fun x=>[.int .i64 x.1,.int .i64 x.2,.int .i64 6])
def FlOwn (w:World) (base:Nat) (v:Value) (F:List (Int × Int)):Prop:=w.ownsRow base 48 3 v F.length (flV F)
structure PanNew (w w':World) (g VB NB LB m:Nat) (lim:Int):Prop where
 c0:w'.cell? ⟨g,0,none⟩=some (.slice (some ⟨VB,0,none⟩) m m)
 c1:w'.cell? ⟨g,1,none⟩=some (.slice (some ⟨NB,0,none⟩) m m)
 c2:w'.cell? ⟨g,2,none⟩=some (.slice (some ⟨LB,0,none⟩) m m)
 c3:w'.cell? ⟨g,3,none⟩=some (.int .i64 lim)
 val:NRow w' VB m (fun _=>0)
 nx:w'.rowIs NB 22 m (fun _=>.slice none 0 0)
 lf:BRow w' LB m (fun _=>false)
 ne:VB≠LB∧NB≠LB∧VB≠NB∧VB < g∧NB < g∧LB < g
 ge:w.heap.size≤VB∧w.heap.size≤NB∧w.heap.size≤LB
 size:w'.heap.size=g+1
 below:Below w.heap.size w w'
theorem PanNew.undrew {w w':World} {g VB NB LB m:Nat} {lim:Int} (h:PanNew w.drew w' g VB NB LB m lim):PanNew w w' g VB NB LB m lim:=
 ⟨h.c0,h.c1,h.c2,h.c3,h.val,h.nx,h.lf,h.ne,h.ge,h.size,(zBd (zBr _ _)).trans h.below⟩
theorem PanNew.of012 (w:World) (m:Nat) (lim:Int):PanNew w ((((w.alloc (.cells (madeCells #[.int .i64 0] m) 3)).alloc (.cells (madeCells #[.slice none 0 0] m) 22)).alloc (.cells (madeCells #[.bool false] m) 4)).alloc (.cells #[.slice (some ⟨w.heap.size,0,none⟩) m m,.slice (some ⟨w.heap.size+1,0,none⟩) m m,.slice (some ⟨w.heap.size+2,0,none⟩) m m,.int .i64 lim] 82)) (w.heap.size+3) (w.heap.size) (w.heap.size+1) (w.heap.size+2) m lim:=by
 have hb:Below w.heap.size w ((((w.alloc (.cells (madeCells #[.int .i64 0] m) 3)).alloc (.cells (madeCells #[.slice none 0 0] m) 22)).alloc (.cells (madeCells #[.bool false] m) 4)).alloc (.cells #[.slice (some ⟨w.heap.size,0,none⟩) m m,.slice (some ⟨w.heap.size+1,0,none⟩) m m,.slice (some ⟨w.heap.size+2,0,none⟩) m m,.int .i64 lim] 82)):=(by repeat (first|(with_reducible first|assumption|exact zBr _ _|refine zBs ?_ (by first|omega|(simp<;>omega)) _|refine zBa ?_ (by first|omega|(simp<;>omega)) _|apply zBd)|assumption))
 refine⟨(by simp[zO,zJ,zQ]),(by simp[zO,zJ,zQ]),(by simp[zO,zJ,zQ]),(by simp[zO,zJ,zQ]),?_,?_,?_,by omega,by omega,by simp,hb⟩
 ·have r:=World.rowIs_made w (.int .i64 0) m 3
  have hq:Below (w.alloc (.cells (madeCells #[.int .i64 0] m) 3)).heap.size (w.alloc (.cells (madeCells #[.int .i64 0] m) 3)) ((((w.alloc (.cells (madeCells #[.int .i64 0] m) 3)).alloc (.cells (madeCells #[.slice none 0 0] m) 22)).alloc (.cells (madeCells #[.bool false] m) 4)).alloc (.cells #[.slice (some ⟨w.heap.size,0,none⟩) m m,.slice (some ⟨w.heap.size+1,0,none⟩) m m,.slice (some ⟨w.heap.size+2,0,none⟩) m m,.int .i64 lim] 82)):=(by repeat (first|(with_reducible first|assumption|exact zBr _ _|refine zBs ?_ (by first|omega|(simp<;>omega)) _|refine zBa ?_ (by first|omega|(simp<;>omega)) _|apply zBd)|assumption))
  exact World.rowIs.of_block r (hq.block _ (by simp<;>omega))
 ·have r:=World.rowIs_made (w.alloc (.cells (madeCells #[.int .i64 0] m) 3)) (.slice none 0 0) m 22
  rw[show (w.alloc (.cells (madeCells #[.int .i64 0] m) 3)).heap.size=w.heap.size+1 by simp] at r
  have hq:Below ((w.alloc (.cells (madeCells #[.int .i64 0] m) 3)).alloc (.cells (madeCells #[.slice none 0 0] m) 22)).heap.size ((w.alloc (.cells (madeCells #[.int .i64 0] m) 3)).alloc (.cells (madeCells #[.slice none 0 0] m) 22)) ((((w.alloc (.cells (madeCells #[.int .i64 0] m) 3)).alloc (.cells (madeCells #[.slice none 0 0] m) 22)).alloc (.cells (madeCells #[.bool false] m) 4)).alloc (.cells #[.slice (some ⟨w.heap.size,0,none⟩) m m,.slice (some ⟨w.heap.size+1,0,none⟩) m m,.slice (some ⟨w.heap.size+2,0,none⟩) m m,.int .i64 lim] 82)):=(by repeat (first|(with_reducible first|assumption|exact zBr _ _|refine zBs ?_ (by first|omega|(simp<;>omega)) _|refine zBa ?_ (by first|omega|(simp<;>omega)) _|apply zBd)|assumption))
  exact World.rowIs.of_block r (hq.block _ (by simp<;>omega))
 ·have r:=World.rowIs_made ((w.alloc (.cells (madeCells #[.int .i64 0] m) 3)).alloc (.cells (madeCells #[.slice none 0 0] m) 22)) (.bool false) m 4
  rw[show ((w.alloc (.cells (madeCells #[.int .i64 0] m) 3)).alloc (.cells (madeCells #[.slice none 0 0] m) 22)).heap.size=w.heap.size+2 by simp] at r
  have hq:Below (((w.alloc (.cells (madeCells #[.int .i64 0] m) 3)).alloc (.cells (madeCells #[.slice none 0 0] m) 22)).alloc (.cells (madeCells #[.bool false] m) 4)).heap.size (((w.alloc (.cells (madeCells #[.int .i64 0] m) 3)).alloc (.cells (madeCells #[.slice none 0 0] m) 22)).alloc (.cells (madeCells #[.bool false] m) 4)) ((((w.alloc (.cells (madeCells #[.int .i64 0] m) 3)).alloc (.cells (madeCells #[.slice none 0 0] m) 22)).alloc (.cells (madeCells #[.bool false] m) 4)).alloc (.cells #[.slice (some ⟨w.heap.size,0,none⟩) m m,.slice (some ⟨w.heap.size+1,0,none⟩) m m,.slice (some ⟨w.heap.size+2,0,none⟩) m m,.int .i64 lim] 82)):=(by repeat (first|(with_reducible first|assumption|exact zBr _ _|refine zBs ?_ (by first|omega|(simp<;>omega)) _|refine zBa ?_ (by first|omega|(simp<;>omega)) _|apply zBd)|assumption))
  exact World.rowIs.of_block r (hq.block _ (by simp<;>omega))
theorem PanNew.of021 (w:World) (m:Nat) (lim:Int):PanNew w ((((w.alloc (.cells (madeCells #[.int .i64 0] m) 3)).alloc (.cells (madeCells #[.bool false] m) 4)).alloc (.cells (madeCells #[.slice none 0 0] m) 22)).alloc (.cells #[.slice (some ⟨w.heap.size,0,none⟩) m m,.slice (some ⟨w.heap.size+2,0,none⟩) m m,.slice (some ⟨w.heap.size+1,0,none⟩) m m,.int .i64 lim] 82)) (w.heap.size+3) (w.heap.size) (w.heap.size+2) (w.heap.size+1) m lim:=by
 have hb:Below w.heap.size w ((((w.alloc (.cells (madeCells #[.int .i64 0] m) 3)).alloc (.cells (madeCells #[.bool false] m) 4)).alloc (.cells (madeCells #[.slice none 0 0] m) 22)).alloc (.cells #[.slice (some ⟨w.heap.size,0,none⟩) m m,.slice (some ⟨w.heap.size+2,0,none⟩) m m,.slice (some ⟨w.heap.size+1,0,none⟩) m m,.int .i64 lim] 82)):=(by repeat (first|(with_reducible first|assumption|exact zBr _ _|refine zBs ?_ (by first|omega|(simp<;>omega)) _|refine zBa ?_ (by first|omega|(simp<;>omega)) _|apply zBd)|assumption))
 refine⟨(by simp[zO,zJ,zQ]),(by simp[zO,zJ,zQ]),(by simp[zO,zJ,zQ]),(by simp[zO,zJ,zQ]),?_,?_,?_,by omega,by omega,by simp,hb⟩
 ·have r:=World.rowIs_made w (.int .i64 0) m 3
  have hq:Below (w.alloc (.cells (madeCells #[.int .i64 0] m) 3)).heap.size (w.alloc (.cells (madeCells #[.int .i64 0] m) 3)) ((((w.alloc (.cells (madeCells #[.int .i64 0] m) 3)).alloc (.cells (madeCells #[.bool false] m) 4)).alloc (.cells (madeCells #[.slice none 0 0] m) 22)).alloc (.cells #[.slice (some ⟨w.heap.size,0,none⟩) m m,.slice (some ⟨w.heap.size+2,0,none⟩) m m,.slice (some ⟨w.heap.size+1,0,none⟩) m m,.int .i64 lim] 82)):=(by repeat (first|(with_reducible first|assumption|exact zBr _ _|refine zBs ?_ (by first|omega|(simp<;>omega)) _|refine zBa ?_ (by first|omega|(simp<;>omega)) _|apply zBd)|assumption))
  exact World.rowIs.of_block r (hq.block _ (by simp<;>omega))
 ·have r:=World.rowIs_made ((w.alloc (.cells (madeCells #[.int .i64 0] m) 3)).alloc (.cells (madeCells #[.bool false] m) 4)) (.slice none 0 0) m 22
  rw[show ((w.alloc (.cells (madeCells #[.int .i64 0] m) 3)).alloc (.cells (madeCells #[.bool false] m) 4)).heap.size=w.heap.size+2 by simp] at r
  have hq:Below (((w.alloc (.cells (madeCells #[.int .i64 0] m) 3)).alloc (.cells (madeCells #[.bool false] m) 4)).alloc (.cells (madeCells #[.slice none 0 0] m) 22)).heap.size (((w.alloc (.cells (madeCells #[.int .i64 0] m) 3)).alloc (.cells (madeCells #[.bool false] m) 4)).alloc (.cells (madeCells #[.slice none 0 0] m) 22)) ((((w.alloc (.cells (madeCells #[.int .i64 0] m) 3)).alloc (.cells (madeCells #[.bool false] m) 4)).alloc (.cells (madeCells #[.slice none 0 0] m) 22)).alloc (.cells #[.slice (some ⟨w.heap.size,0,none⟩) m m,.slice (some ⟨w.heap.size+2,0,none⟩) m m,.slice (some ⟨w.heap.size+1,0,none⟩) m m,.int .i64 lim] 82)):=(by repeat (first|(with_reducible first|assumption|exact zBr _ _|refine zBs ?_ (by first|omega|(simp<;>omega)) _|refine zBa ?_ (by first|omega|(simp<;>omega)) _|apply zBd)|assumption))
  exact World.rowIs.of_block r (hq.block _ (by simp<;>omega))
 ·have r:=World.rowIs_made (w.alloc (.cells (madeCells #[.int .i64 0] m) 3)) (.bool false) m 4
  rw[show (w.alloc (.cells (madeCells #[.int .i64 0] m) 3)).heap.size=w.heap.size+1 by simp] at r
  have hq:Below ((w.alloc (.cells (madeCells #[.int .i64 0] m) 3)).alloc (.cells (madeCells #[.bool false] m) 4)).heap.size ((w.alloc (.cells (madeCells #[.int .i64 0] m) 3)).alloc (.cells (madeCells #[.bool false] m) 4)) ((((w.alloc (.cells (madeCells #[.int .i64 0] m) 3)).alloc (.cells (madeCells #[.bool false] m) 4)).alloc (.cells (madeCells #[.slice none 0 0] m) 22)).alloc (.cells #[.slice (some ⟨w.heap.size,0,none⟩) m m,.slice (some ⟨w.heap.size+2,0,none⟩) m m,.slice (some ⟨w.heap.size+1,0,none⟩) m m,.int .i64 lim] 82)):=(by repeat (first|(with_reducible first|assumption|exact zBr _ _|refine zBs ?_ (by first|omega|(simp<;>omega)) _|refine zBa ?_ (by first|omega|(simp<;>omega)) _|apply zBd)|assumption))
  exact World.rowIs.of_block r (hq.block _ (by simp<;>omega))
theorem PanNew.of102 (w:World) (m:Nat) (lim:Int):PanNew w ((((w.alloc (.cells (madeCells #[.slice none 0 0] m) 22)).alloc (.cells (madeCells #[.int .i64 0] m) 3)).alloc (.cells (madeCells #[.bool false] m) 4)).alloc (.cells #[.slice (some ⟨w.heap.size+1,0,none⟩) m m,.slice (some ⟨w.heap.size,0,none⟩) m m,.slice (some ⟨w.heap.size+2,0,none⟩) m m,.int .i64 lim] 82)) (w.heap.size+3) (w.heap.size+1) (w.heap.size) (w.heap.size+2) m lim:=by
 have hb:Below w.heap.size w ((((w.alloc (.cells (madeCells #[.slice none 0 0] m) 22)).alloc (.cells (madeCells #[.int .i64 0] m) 3)).alloc (.cells (madeCells #[.bool false] m) 4)).alloc (.cells #[.slice (some ⟨w.heap.size+1,0,none⟩) m m,.slice (some ⟨w.heap.size,0,none⟩) m m,.slice (some ⟨w.heap.size+2,0,none⟩) m m,.int .i64 lim] 82)):=(by repeat (first|(with_reducible first|assumption|exact zBr _ _|refine zBs ?_ (by first|omega|(simp<;>omega)) _|refine zBa ?_ (by first|omega|(simp<;>omega)) _|apply zBd)|assumption))
 refine⟨(by simp[zO,zJ,zQ]),(by simp[zO,zJ,zQ]),(by simp[zO,zJ,zQ]),(by simp[zO,zJ,zQ]),?_,?_,?_,by omega,by omega,by simp,hb⟩
 ·have r:=World.rowIs_made (w.alloc (.cells (madeCells #[.slice none 0 0] m) 22)) (.int .i64 0) m 3
  rw[show (w.alloc (.cells (madeCells #[.slice none 0 0] m) 22)).heap.size=w.heap.size+1 by simp] at r
  have hq:Below ((w.alloc (.cells (madeCells #[.slice none 0 0] m) 22)).alloc (.cells (madeCells #[.int .i64 0] m) 3)).heap.size ((w.alloc (.cells (madeCells #[.slice none 0 0] m) 22)).alloc (.cells (madeCells #[.int .i64 0] m) 3)) ((((w.alloc (.cells (madeCells #[.slice none 0 0] m) 22)).alloc (.cells (madeCells #[.int .i64 0] m) 3)).alloc (.cells (madeCells #[.bool false] m) 4)).alloc (.cells #[.slice (some ⟨w.heap.size+1,0,none⟩) m m,.slice (some ⟨w.heap.size,0,none⟩) m m,.slice (some ⟨w.heap.size+2,0,none⟩) m m,.int .i64 lim] 82)):=(by repeat (first|(with_reducible first|assumption|exact zBr _ _|refine zBs ?_ (by first|omega|(simp<;>omega)) _|refine zBa ?_ (by first|omega|(simp<;>omega)) _|apply zBd)|assumption))
  exact World.rowIs.of_block r (hq.block _ (by simp<;>omega))
 ·have r:=World.rowIs_made w (.slice none 0 0) m 22
  have hq:Below (w.alloc (.cells (madeCells #[.slice none 0 0] m) 22)).heap.size (w.alloc (.cells (madeCells #[.slice none 0 0] m) 22)) ((((w.alloc (.cells (madeCells #[.slice none 0 0] m) 22)).alloc (.cells (madeCells #[.int .i64 0] m) 3)).alloc (.cells (madeCells #[.bool false] m) 4)).alloc (.cells #[.slice (some ⟨w.heap.size+1,0,none⟩) m m,.slice (some ⟨w.heap.size,0,none⟩) m m,.slice (some ⟨w.heap.size+2,0,none⟩) m m,.int .i64 lim] 82)):=(by repeat (first|(with_reducible first|assumption|exact zBr _ _|refine zBs ?_ (by first|omega|(simp<;>omega)) _|refine zBa ?_ (by first|omega|(simp<;>omega)) _|apply zBd)|assumption))
  exact World.rowIs.of_block r (hq.block _ (by simp<;>omega))
 ·have r:=World.rowIs_made ((w.alloc (.cells (madeCells #[.slice none 0 0] m) 22)).alloc (.cells (madeCells #[.int .i64 0] m) 3)) (.bool false) m 4
  rw[show ((w.alloc (.cells (madeCells #[.slice none 0 0] m) 22)).alloc (.cells (madeCells #[.int .i64 0] m) 3)).heap.size=w.heap.size+2 by simp] at r
  have hq:Below (((w.alloc (.cells (madeCells #[.slice none 0 0] m) 22)).alloc (.cells (madeCells #[.int .i64 0] m) 3)).alloc (.cells (madeCells #[.bool false] m) 4)).heap.size (((w.alloc (.cells (madeCells #[.slice none 0 0] m) 22)).alloc (.cells (madeCells #[.int .i64 0] m) 3)).alloc (.cells (madeCells #[.bool false] m) 4)) ((((w.alloc (.cells (madeCells #[.slice none 0 0] m) 22)).alloc (.cells (madeCells #[.int .i64 0] m) 3)).alloc (.cells (madeCells #[.bool false] m) 4)).alloc (.cells #[.slice (some ⟨w.heap.size+1,0,none⟩) m m,.slice (some ⟨w.heap.size,0,none⟩) m m,.slice (some ⟨w.heap.size+2,0,none⟩) m m,.int .i64 lim] 82)):=(by repeat (first|(with_reducible first|assumption|exact zBr _ _|refine zBs ?_ (by first|omega|(simp<;>omega)) _|refine zBa ?_ (by first|omega|(simp<;>omega)) _|apply zBd)|assumption))
  exact World.rowIs.of_block r (hq.block _ (by simp<;>omega))
theorem PanNew.of120 (w:World) (m:Nat) (lim:Int):PanNew w ((((w.alloc (.cells (madeCells #[.slice none 0 0] m) 22)).alloc (.cells (madeCells #[.bool false] m) 4)).alloc (.cells (madeCells #[.int .i64 0] m) 3)).alloc (.cells #[.slice (some ⟨w.heap.size+2,0,none⟩) m m,.slice (some ⟨w.heap.size,0,none⟩) m m,.slice (some ⟨w.heap.size+1,0,none⟩) m m,.int .i64 lim] 82)) (w.heap.size+3) (w.heap.size+2) (w.heap.size) (w.heap.size+1) m lim:=by
 have hb:Below w.heap.size w ((((w.alloc (.cells (madeCells #[.slice none 0 0] m) 22)).alloc (.cells (madeCells #[.bool false] m) 4)).alloc (.cells (madeCells #[.int .i64 0] m) 3)).alloc (.cells #[.slice (some ⟨w.heap.size+2,0,none⟩) m m,.slice (some ⟨w.heap.size,0,none⟩) m m,.slice (some ⟨w.heap.size+1,0,none⟩) m m,.int .i64 lim] 82)):=(by repeat (first|(with_reducible first|assumption|exact zBr _ _|refine zBs ?_ (by first|omega|(simp<;>omega)) _|refine zBa ?_ (by first|omega|(simp<;>omega)) _|apply zBd)|assumption))
 refine⟨(by simp[zO,zJ,zQ]),(by simp[zO,zJ,zQ]),(by simp[zO,zJ,zQ]),(by simp[zO,zJ,zQ]),?_,?_,?_,by omega,by omega,by simp,hb⟩
 ·have r:=World.rowIs_made ((w.alloc (.cells (madeCells #[.slice none 0 0] m) 22)).alloc (.cells (madeCells #[.bool false] m) 4)) (.int .i64 0) m 3
  rw[show ((w.alloc (.cells (madeCells #[.slice none 0 0] m) 22)).alloc (.cells (madeCells #[.bool false] m) 4)).heap.size=w.heap.size+2 by simp] at r
  have hq:Below (((w.alloc (.cells (madeCells #[.slice none 0 0] m) 22)).alloc (.cells (madeCells #[.bool false] m) 4)).alloc (.cells (madeCells #[.int .i64 0] m) 3)).heap.size (((w.alloc (.cells (madeCells #[.slice none 0 0] m) 22)).alloc (.cells (madeCells #[.bool false] m) 4)).alloc (.cells (madeCells #[.int .i64 0] m) 3)) ((((w.alloc (.cells (madeCells #[.slice none 0 0] m) 22)).alloc (.cells (madeCells #[.bool false] m) 4)).alloc (.cells (madeCells #[.int .i64 0] m) 3)).alloc (.cells #[.slice (some ⟨w.heap.size+2,0,none⟩) m m,.slice (some ⟨w.heap.size,0,none⟩) m m,.slice (some ⟨w.heap.size+1,0,none⟩) m m,.int .i64 lim] 82)):=(by repeat (first|(with_reducible first|assumption|exact zBr _ _|refine zBs ?_ (by first|omega|(simp<;>omega)) _|refine zBa ?_ (by first|omega|(simp<;>omega)) _|apply zBd)|assumption))
  exact World.rowIs.of_block r (hq.block _ (by simp<;>omega))
 ·have r:=World.rowIs_made w (.slice none 0 0) m 22
  have hq:Below (w.alloc (.cells (madeCells #[.slice none 0 0] m) 22)).heap.size (w.alloc (.cells (madeCells #[.slice none 0 0] m) 22)) ((((w.alloc (.cells (madeCells #[.slice none 0 0] m) 22)).alloc (.cells (madeCells #[.bool false] m) 4)).alloc (.cells (madeCells #[.int .i64 0] m) 3)).alloc (.cells #[.slice (some ⟨w.heap.size+2,0,none⟩) m m,.slice (some ⟨w.heap.size,0,none⟩) m m,.slice (some ⟨w.heap.size+1,0,none⟩) m m,.int .i64 lim] 82)):=(by repeat (first|(with_reducible first|assumption|exact zBr _ _|refine zBs ?_ (by first|omega|(simp<;>omega)) _|refine zBa ?_ (by first|omega|(simp<;>omega)) _|apply zBd)|assumption))
  exact World.rowIs.of_block r (hq.block _ (by simp<;>omega))
 ·have r:=World.rowIs_made (w.alloc (.cells (madeCells #[.slice none 0 0] m) 22)) (.bool false) m 4
  rw[show (w.alloc (.cells (madeCells #[.slice none 0 0] m) 22)).heap.size=w.heap.size+1 by simp] at r
  have hq:Below ((w.alloc (.cells (madeCells #[.slice none 0 0] m) 22)).alloc (.cells (madeCells #[.bool false] m) 4)).heap.size ((w.alloc (.cells (madeCells #[.slice none 0 0] m) 22)).alloc (.cells (madeCells #[.bool false] m) 4)) ((((w.alloc (.cells (madeCells #[.slice none 0 0] m) 22)).alloc (.cells (madeCells #[.bool false] m) 4)).alloc (.cells (madeCells #[.int .i64 0] m) 3)).alloc (.cells #[.slice (some ⟨w.heap.size+2,0,none⟩) m m,.slice (some ⟨w.heap.size,0,none⟩) m m,.slice (some ⟨w.heap.size+1,0,none⟩) m m,.int .i64 lim] 82)):=(by repeat (first|(with_reducible first|assumption|exact zBr _ _|refine zBs ?_ (by first|omega|(simp<;>omega)) _|refine zBa ?_ (by first|omega|(simp<;>omega)) _|apply zBd)|assumption))
  exact World.rowIs.of_block r (hq.block _ (by simp<;>omega))
theorem PanNew.of201 (w:World) (m:Nat) (lim:Int):PanNew w ((((w.alloc (.cells (madeCells #[.bool false] m) 4)).alloc (.cells (madeCells #[.int .i64 0] m) 3)).alloc (.cells (madeCells #[.slice none 0 0] m) 22)).alloc (.cells #[.slice (some ⟨w.heap.size+1,0,none⟩) m m,.slice (some ⟨w.heap.size+2,0,none⟩) m m,.slice (some ⟨w.heap.size,0,none⟩) m m,.int .i64 lim] 82)) (w.heap.size+3) (w.heap.size+1) (w.heap.size+2) (w.heap.size) m lim:=by
 have hb:Below w.heap.size w ((((w.alloc (.cells (madeCells #[.bool false] m) 4)).alloc (.cells (madeCells #[.int .i64 0] m) 3)).alloc (.cells (madeCells #[.slice none 0 0] m) 22)).alloc (.cells #[.slice (some ⟨w.heap.size+1,0,none⟩) m m,.slice (some ⟨w.heap.size+2,0,none⟩) m m,.slice (some ⟨w.heap.size,0,none⟩) m m,.int .i64 lim] 82)):=(by repeat (first|(with_reducible first|assumption|exact zBr _ _|refine zBs ?_ (by first|omega|(simp<;>omega)) _|refine zBa ?_ (by first|omega|(simp<;>omega)) _|apply zBd)|assumption))
 refine⟨(by simp[zO,zJ,zQ]),(by simp[zO,zJ,zQ]),(by simp[zO,zJ,zQ]),(by simp[zO,zJ,zQ]),?_,?_,?_,by omega,by omega,by simp,hb⟩
 ·have r:=World.rowIs_made (w.alloc (.cells (madeCells #[.bool false] m) 4)) (.int .i64 0) m 3
  rw[show (w.alloc (.cells (madeCells #[.bool false] m) 4)).heap.size=w.heap.size+1 by simp] at r
  have hq:Below ((w.alloc (.cells (madeCells #[.bool false] m) 4)).alloc (.cells (madeCells #[.int .i64 0] m) 3)).heap.size ((w.alloc (.cells (madeCells #[.bool false] m) 4)).alloc (.cells (madeCells #[.int .i64 0] m) 3)) ((((w.alloc (.cells (madeCells #[.bool false] m) 4)).alloc (.cells (madeCells #[.int .i64 0] m) 3)).alloc (.cells (madeCells #[.slice none 0 0] m) 22)).alloc (.cells #[.slice (some ⟨w.heap.size+1,0,none⟩) m m,.slice (some ⟨w.heap.size+2,0,none⟩) m m,.slice (some ⟨w.heap.size,0,none⟩) m m,.int .i64 lim] 82)):=(by repeat (first|(with_reducible first|assumption|exact zBr _ _|refine zBs ?_ (by first|omega|(simp<;>omega)) _|refine zBa ?_ (by first|omega|(simp<;>omega)) _|apply zBd)|assumption))
  exact World.rowIs.of_block r (hq.block _ (by simp<;>omega))
 ·have r:=World.rowIs_made ((w.alloc (.cells (madeCells #[.bool false] m) 4)).alloc (.cells (madeCells #[.int .i64 0] m) 3)) (.slice none 0 0) m 22
  rw[show ((w.alloc (.cells (madeCells #[.bool false] m) 4)).alloc (.cells (madeCells #[.int .i64 0] m) 3)).heap.size=w.heap.size+2 by simp] at r
  have hq:Below (((w.alloc (.cells (madeCells #[.bool false] m) 4)).alloc (.cells (madeCells #[.int .i64 0] m) 3)).alloc (.cells (madeCells #[.slice none 0 0] m) 22)).heap.size (((w.alloc (.cells (madeCells #[.bool false] m) 4)).alloc (.cells (madeCells #[.int .i64 0] m) 3)).alloc (.cells (madeCells #[.slice none 0 0] m) 22)) ((((w.alloc (.cells (madeCells #[.bool false] m) 4)).alloc (.cells (madeCells #[.int .i64 0] m) 3)).alloc (.cells (madeCells #[.slice none 0 0] m) 22)).alloc (.cells #[.slice (some ⟨w.heap.size+1,0,none⟩) m m,.slice (some ⟨w.heap.size+2,0,none⟩) m m,.slice (some ⟨w.heap.size,0,none⟩) m m,.int .i64 lim] 82)):=(by repeat (first|(with_reducible first|assumption|exact zBr _ _|refine zBs ?_ (by first|omega|(simp<;>omega)) _|refine zBa ?_ (by first|omega|(simp<;>omega)) _|apply zBd)|assumption))
  exact World.rowIs.of_block r (hq.block _ (by simp<;>omega))
 ·have r:=World.rowIs_made w (.bool false) m 4
  have hq:Below (w.alloc (.cells (madeCells #[.bool false] m) 4)).heap.size (w.alloc (.cells (madeCells #[.bool false] m) 4)) ((((w.alloc (.cells (madeCells #[.bool false] m) 4)).alloc (.cells (madeCells #[.int .i64 0] m) 3)).alloc (.cells (madeCells #[.slice none 0 0] m) 22)).alloc (.cells #[.slice (some ⟨w.heap.size+1,0,none⟩) m m,.slice (some ⟨w.heap.size+2,0,none⟩) m m,.slice (some ⟨w.heap.size,0,none⟩) m m,.int .i64 lim] 82)):=(by repeat (first|(with_reducible first|assumption|exact zBr _ _|refine zBs ?_ (by first|omega|(simp<;>omega)) _|refine zBa ?_ (by first|omega|(simp<;>omega)) _|apply zBd)|assumption))
  exact World.rowIs.of_block r (hq.block _ (by simp<;>omega))
theorem PanNew.of210 (w:World) (m:Nat) (lim:Int):PanNew w ((((w.alloc (.cells (madeCells #[.bool false] m) 4)).alloc (.cells (madeCells #[.slice none 0 0] m) 22)).alloc (.cells (madeCells #[.int .i64 0] m) 3)).alloc (.cells #[.slice (some ⟨w.heap.size+2,0,none⟩) m m,.slice (some ⟨w.heap.size+1,0,none⟩) m m,.slice (some ⟨w.heap.size,0,none⟩) m m,.int .i64 lim] 82)) (w.heap.size+3) (w.heap.size+2) (w.heap.size+1) (w.heap.size) m lim:=by
 have hb:Below w.heap.size w ((((w.alloc (.cells (madeCells #[.bool false] m) 4)).alloc (.cells (madeCells #[.slice none 0 0] m) 22)).alloc (.cells (madeCells #[.int .i64 0] m) 3)).alloc (.cells #[.slice (some ⟨w.heap.size+2,0,none⟩) m m,.slice (some ⟨w.heap.size+1,0,none⟩) m m,.slice (some ⟨w.heap.size,0,none⟩) m m,.int .i64 lim] 82)):=(by repeat (first|(with_reducible first|assumption|exact zBr _ _|refine zBs ?_ (by first|omega|(simp<;>omega)) _|refine zBa ?_ (by first|omega|(simp<;>omega)) _|apply zBd)|assumption))
 refine⟨(by simp[zO,zJ,zQ]),(by simp[zO,zJ,zQ]),(by simp[zO,zJ,zQ]),(by simp[zO,zJ,zQ]),?_,?_,?_,by omega,by omega,by simp,hb⟩
 ·have r:=World.rowIs_made ((w.alloc (.cells (madeCells #[.bool false] m) 4)).alloc (.cells (madeCells #[.slice none 0 0] m) 22)) (.int .i64 0) m 3
  rw[show ((w.alloc (.cells (madeCells #[.bool false] m) 4)).alloc (.cells (madeCells #[.slice none 0 0] m) 22)).heap.size=w.heap.size+2 by simp] at r
  have hq:Below (((w.alloc (.cells (madeCells #[.bool false] m) 4)).alloc (.cells (madeCells #[.slice none 0 0] m) 22)).alloc (.cells (madeCells #[.int .i64 0] m) 3)).heap.size (((w.alloc (.cells (madeCells #[.bool false] m) 4)).alloc (.cells (madeCells #[.slice none 0 0] m) 22)).alloc (.cells (madeCells #[.int .i64 0] m) 3)) ((((w.alloc (.cells (madeCells #[.bool false] m) 4)).alloc (.cells (madeCells #[.slice none 0 0] m) 22)).alloc (.cells (madeCells #[.int .i64 0] m) 3)).alloc (.cells #[.slice (some ⟨w.heap.size+2,0,none⟩) m m,.slice (some ⟨w.heap.size+1,0,none⟩) m m,.slice (some ⟨w.heap.size,0,none⟩) m m,.int .i64 lim] 82)):=(by repeat (first|(with_reducible first|assumption|exact zBr _ _|refine zBs ?_ (by first|omega|(simp<;>omega)) _|refine zBa ?_ (by first|omega|(simp<;>omega)) _|apply zBd)|assumption))
  exact World.rowIs.of_block r (hq.block _ (by simp<;>omega))
 ·have r:=World.rowIs_made (w.alloc (.cells (madeCells #[.bool false] m) 4)) (.slice none 0 0) m 22
  rw[show (w.alloc (.cells (madeCells #[.bool false] m) 4)).heap.size=w.heap.size+1 by simp] at r
  have hq:Below ((w.alloc (.cells (madeCells #[.bool false] m) 4)).alloc (.cells (madeCells #[.slice none 0 0] m) 22)).heap.size ((w.alloc (.cells (madeCells #[.bool false] m) 4)).alloc (.cells (madeCells #[.slice none 0 0] m) 22)) ((((w.alloc (.cells (madeCells #[.bool false] m) 4)).alloc (.cells (madeCells #[.slice none 0 0] m) 22)).alloc (.cells (madeCells #[.int .i64 0] m) 3)).alloc (.cells #[.slice (some ⟨w.heap.size+2,0,none⟩) m m,.slice (some ⟨w.heap.size+1,0,none⟩) m m,.slice (some ⟨w.heap.size,0,none⟩) m m,.int .i64 lim] 82)):=(by repeat (first|(with_reducible first|assumption|exact zBr _ _|refine zBs ?_ (by first|omega|(simp<;>omega)) _|refine zBa ?_ (by first|omega|(simp<;>omega)) _|apply zBd)|assumption))
  exact World.rowIs.of_block r (hq.block _ (by simp<;>omega))
 ·have r:=World.rowIs_made w (.bool false) m 4
  have hq:Below (w.alloc (.cells (madeCells #[.bool false] m) 4)).heap.size (w.alloc (.cells (madeCells #[.bool false] m) 4)) ((((w.alloc (.cells (madeCells #[.bool false] m) 4)).alloc (.cells (madeCells #[.slice none 0 0] m) 22)).alloc (.cells (madeCells #[.int .i64 0] m) 3)).alloc (.cells #[.slice (some ⟨w.heap.size+2,0,none⟩) m m,.slice (some ⟨w.heap.size+1,0,none⟩) m m,.slice (some ⟨w.heap.size,0,none⟩) m m,.int .i64 lim] 82)):=(by repeat (first|(with_reducible first|assumption|exact zBr _ _|refine zBs ?_ (by first|omega|(simp<;>omega)) _|refine zBa ?_ (by first|omega|(simp<;>omega)) _|apply zBd)|assumption))
  exact World.rowIs.of_block r (hq.block _ (by simp<;>omega))
structure PanF (w0 w:World) (g VB NB LB:Nat) (P:Pan) (i:Nat):Prop where
 c0:w.cell? ⟨g,0,none⟩=some (.slice (some ⟨VB,0,none⟩) P.n P.n)
 c1:w.cell? ⟨g,1,none⟩=some (.slice (some ⟨NB,0,none⟩) P.n P.n)
 c2:w.cell? ⟨g,2,none⟩=some (.slice (some ⟨LB,0,none⟩) P.n P.n)
 c3:w.cell? ⟨g,3,none⟩=some (.int .i64 P.lim)
 val:NRow w VB P.n (fun j=>if j < i then P.val j else 0)
 nx:∃ vs:Nat→Value,w.rowIs NB 22 P.n vs∧∀ j,j < i→QRow w (g+1) (vs j) (P.nx j)
 lf:BRow w LB P.n (fun j=>if j < i then P.pr j else false)
 ne:VB≠LB∧NB≠LB∧VB≠NB∧VB < g∧NB < g∧LB < g
 ge:w0.heap.size≤VB∧w0.heap.size≤NB∧w0.heap.size≤LB
 below:Below w0.heap.size w0 w
theorem PanF.lt {w0 w:World} {g VB NB LB i:Nat} {P:Pan} (h:PanF w0 w g VB NB LB P i):g < w.heap.size:=zM w _ h.c0
theorem PanF.start {w w':World} {g VB NB LB m:Nat} {lim:Int} {P:Pan} (h:PanNew w w' g VB NB LB m lim) (hn:P.n=m) (hl:P.lim=lim):PanF w w' g VB NB LB P 0:=by
 subst hn hl
 exact⟨h.c0,h.c1,h.c2,h.c3,h.val,⟨_,h.nx,fun j hj=>by omega⟩,h.lf,h.ne,h.ge,h.below⟩
theorem PanF.grow {w0 w w':World} {g VB NB LB i:Nat} {P:Pan} (h:PanF w0 w g VB NB LB P i) (hb:Below w.heap.size w w'):PanF w0 w' g VB NB LB P i:=by
 obtain⟨a1,a2,a3,a4,a5,a6⟩:=h.ne
 have hlt:=h.lt
 obtain⟨vs,h1,h2⟩:=h.nx
 refine⟨zP hb h.c0,zP hb h.c1,zP hb h.c2,zP hb h.c3,World.rowIs.of_block h.val (hb.block _ (by omega)),⟨vs,World.rowIs.of_block h1 (hb.block _ (by omega)),fun j hj=>own_below (h2 j hj) hb⟩,h.lf.below hb,h.ne,h.ge,h.below.trans (hb.mono h.below.size)⟩
theorem PanF.oth {w:World} {b c j:Nat} {v u:Value} (h:w.cell? ⟨b,j,none⟩=some u) (hne:b≠c) {i:Nat}:(w.setCell ⟨c,i,none⟩ v).cell? ⟨b,j,none⟩=some u:=by
 rw[zK _ _ _ _ (by first|(simp;done)|(simp;omega))];exact h
theorem PanF.step {w0 w w2:World} {g VB NB LB i:Nat} {P:Pan} (h:PanF w0 w g VB NB LB P i) (hi:i < P.n) {v:Value}
  (h2:Below ((w.setCell ⟨VB,i,none⟩ (.int .i64 (P.val i))).setCell ⟨LB,i,none⟩ (.bool (P.pr i))).heap.size ((w.setCell ⟨VB,i,none⟩ (.int .i64 (P.val i))).setCell ⟨LB,i,none⟩ (.bool (P.pr i))) w2)
  (hv:QRow w2 (g+1) v (P.nx i)):PanF w0 (w2.setCell ⟨NB,i,none⟩ v) g VB NB LB P (i+1):=by
 obtain⟨a1,a2,a3,a4,a5,a6⟩:=h.ne
 obtain⟨b1,b2,b3⟩:=h.ge
 have hlt:=h.lt
 have hs:((w.setCell ⟨VB,i,none⟩ (.int .i64 (P.val i))).setCell ⟨LB,i,none⟩ (.bool (P.pr i))).heap.size=w.heap.size:=by simp
 have kc:∀ j u,w.cell? ⟨g,j,none⟩=some u→(w2.setCell ⟨NB,i,none⟩ v).cell? ⟨g,j,none⟩=some u:=fun j u e=>
  PanF.oth (zP h2 (PanF.oth (PanF.oth e (by omega)) (by omega))) (by omega)
 have f1:NRow ((w.setCell ⟨VB,i,none⟩ (.int .i64 (P.val i))).setCell ⟨LB,i,none⟩ (.bool (P.pr i))) VB P.n (fun j=>if j < i+1 then P.val j else 0):=by
  refine World.rowIs.of_block ((NRow.set h.val i (P.val i)).congr (fun j hj=>?_)) (Below.heap_setCell _ _ _ VB a1)
  by_cases e:j=i
  ·subst e;rw[if_pos rfl,if_pos (by omega)]
  ·rw[if_neg e]
   by_cases e2:j < i
   ·rw[if_pos e2,if_pos (by omega)]
   ·rw[if_neg e2,if_neg (by omega)]
 have f2:BRow ((w.setCell ⟨VB,i,none⟩ (.int .i64 (P.val i))).setCell ⟨LB,i,none⟩ (.bool (P.pr i))) LB P.n (fun j=>if j < i+1 then P.pr j else false):=by
  refine (BRow.set (h.lf.of_block (Below.heap_setCell w ⟨VB,i,none⟩ (.int .i64 (P.val i)) LB (Ne.symm a1))) i (P.pr i)).congr (fun j hj=>?_)
  by_cases e:j=i
  ·subst e;rw[if_pos rfl,if_pos (by omega)]
  ·rw[if_neg e]
   by_cases e2:j < i
   ·rw[if_pos e2,if_pos (by omega)]
   ·rw[if_neg e2,if_neg (by omega)]
 obtain⟨vs,n1,n2⟩:=h.nx
 have f3:w2.rowIs NB 22 P.n vs:=World.rowIs.of_block n1 ((h2.block NB (by rw[hs];omega)).trans ((Below.heap_setCell _ _ _ NB a2).trans (Below.heap_setCell _ _ _ NB (Ne.symm a3))))
 have f4:∀ j,j < i→QRow w2 (g+1) (vs j) (P.nx j):=fun j hj=>own_below (((n2 j hj).kept (grownBy_setCell w VB i (.int .i64 (P.val i))) (fun k hk=>by injection hk with hk;omega)).kept (grownBy_setCell _ _ _ _) (fun k hk=>by injection hk with hk;omega)) h2
 refine⟨kc _ _ h.c0,kc _ _ h.c1,kc _ _ h.c2,kc _ _ h.c3,?_,⟨fun j=>if j=i then v else vs j,f3.set i v,fun j hj=>?_⟩,?_,h.ne,h.ge,?_⟩
 ·exact World.rowIs.of_block f1 ((Below.heap_setCell _ _ _ VB a3).trans (h2.block VB (by rw[hs];omega)))
 ·dsimp only
  by_cases e:j=i
  ·subst e
   rw[if_pos rfl]
   exact hv.kept (grownBy_setCell _ _ _ _) (fun k hk=>by injection hk with hk;omega)
  ·rw[if_neg e]
   exact (f4 j (by omega)).kept (grownBy_setCell _ _ _ _) (fun k hk=>by injection hk with hk;omega)
 ·exact f2.of_block ((Below.heap_setCell _ _ _ LB (Ne.symm a2)).trans (h2.block LB (by rw[hs];omega)))
 ·have q:Below w0.heap.size w0 ((w.setCell ⟨VB,i,none⟩ (.int .i64 (P.val i))).setCell ⟨LB,i,none⟩ (.bool (P.pr i))):=(h.below.setCell b1 _).setCell b3 _
  exact (q.trans (h2.mono q.size)).setCell b2 _
theorem PanF.done {w0 w:World} {g VB NB LB:Nat} {P:Pan} (h:PanF w0 w g VB NB LB P P.n):PanAt w g VB NB LB P P.pr:=by
 obtain⟨a1,a2,a3,a4,a5,a6⟩:=h.ne
 obtain⟨vs,n1,n2⟩:=h.nx
 refine⟨h.c0,h.c1,h.c2,h.c3,fun j hj=>?_,fun i hi=>⟨_,n1.cell hi,own_mono (n2 i hi) (by omega)⟩,h.lf.congr (fun j hj=>by rw[if_pos hj]),⟨a1,a2,by omega⟩⟩
 have:=NRow.cell h.val hj
 rw[if_pos hj] at this
 exact this
theorem bnd_in (c:Int):-1000≤(bnd c).1∧(bnd c).2≤11000:=by
 unfold bnd
 (repeat' split)<;>decide
theorem checkE_0 {e v:Int} (h4:checkE e v≠4) (h1:checkE e v≠1):okC e∧-1000≤v∧v≤11000:=by
 unfold checkE at h4 h1
 by_cases hk:okC e
 ·rw[if_pos hk] at h1
  by_cases hb:v < (bnd e).1∨(bnd e).2 < v
  ·rw[if_pos hb] at h1;exact absurd rfl h1
  ·have:=bnd_in e
   exact⟨hk,by omega,by omega⟩
 ·rw[if_neg hk] at h4;exact absurd rfl h4
theorem val_bd {R:Rdg} (h:valE R=0):∀ x∈R,okC x.1∧-1000≤x.2∧x.2≤11000:=by
 unfold valE at h
 by_cases a4:R.any (fun x=>checkE x.1 x.2 == 4)=true
 ·rw[if_pos a4] at h;exact absurd h (by decide)
 ·rw[if_neg a4] at h
  by_cases a1:R.any (fun x=>checkE x.1 x.2 == 1)=true
  ·rw[if_pos a1] at h;exact absurd h (by decide)
  ·intro x hx
   rw[Bool.not_eq_true,List.any_eq_false] at a4 a1
   exact checkE_0 (fun e=>a4 x hx (by rw[e];rfl)) (fun e=>a1 x hx (by rw[e];rfl))
theorem fV_bd {R:Rdg} (h:valE R=0) (c:Int):-1000≤fV R c∧fV R c≤11000:=by
 unfold fV findL
 cases e:R.find? (fun x=>x.1 == c) with
 |none=>exact⟨by decide,by decide⟩
 |some x=>exact (val_bd h x (List.mem_of_find?_eq_some e)).2
theorem fB_ok {R:Rdg} (h:valE R=0) {c:Int} (hf:fB R c=true):okC c:=by
 unfold fB findL at hf
 cases e:R.find? (fun x=>x.1 == c) with
 |none=>rw[e] at hf;cases hf
 |some x=>
  have h1:=(val_bd h x (List.mem_of_find?_eq_some e)).1
  have h2:=List.find?_some e
  rw[beq_iff_eq] at h2
  rwa[h2] at h1
theorem aroL_lt {n:Nat} {L:List BR} {c:Int} {i k:Nat} (h:k∈aroL n L c i):k < L.length:=by
 unfold aroL at h
 split at h
 ·exact List.mem_range.1 (List.mem_filter.1 h).1
 ·cases h
theorem aroL_len (n:Nat) (L:List BR) (c:Int) (i:Nat):(aroL n L c i).length≤L.length:=by
 unfold aroL
 split
 ·exact filt_le _ _
 ·exact Nat.zero_le _
theorem panB_ok {n:Nat} {L:List BR} {lim:Int} {c:Nat} (hm:L.length≤100000) (h:∀ x∈L,valE x.2=0):PanOk (panB n L lim c):=by
 refine⟨hm,fun j hj=>?_,fun i _=>Nat.le_trans (aroL_len _ _ _ _) hm,fun i _ k hk=>aroL_lt hk⟩
 have hb:valE (bat L j).2=0:=by rw[bat_eq hj];exact h _ (List.getElem_mem _)
 have:=fV_bd hb (c:Int)
 show -1000000000≤fV (bat L j).2 (c:Int)∧fV (bat L j).2 (c:Int)≤1000000000
 omega
theorem flC_len (n:Nat) (L:List BR) (f:Nat→Int) (c:Nat):(flC n L f c).length≤L.length:=by
 unfold flC
 split
 ·exact Nat.zero_le _
 ·exact filt_le _ _
theorem outC_len (n:Nat) (L:List BR) (f:Nat→Int):∀ c,(outC n L f c).length≤c*L.length
 |0=>by simp[outC]
 |c+1=>by
  have ih:=outC_len n L f c
  have h:=flC_len n L f c
  unfold outC at ih ⊢
  rw[List.range_succ,List.flatMap_append,List.length_append,Nat.succ_mul]
  have e:(List.flatMap (fun c=>(flC n L f c).map (fun i:Nat=>((i:Int),(c:Int)))) [c]).length=(flC n L f c).length:=by simp
  omega
theorem elFlag:RX.ElemOf Tryz.prog 31 48 (.agg #[.int .i64 0,.int .i64 0,.int .i64 0]) 3 24:=⟨Tryz.underlying31,by kernel_rfl,rfl,by decide⟩
theorem FlOwn.snoc {w:World} {base:Nat} {v:Value} {F:List (Int × Int)} {a b:Int} (h:w.ownsRow base 48 3 v (F.length+1) (flV F ++ [.int .i64 a,.int .i64 b,.int .i64 6])):FlOwn w base v (F ++ [(a,b)]):=by
 unfold FlOwn
 rw[List.length_append,show flV (F ++ [(a,b)])=flV F ++ [.int .i64 a,.int .i64 b,.int .i64 6] by simp[flV,List.flatMap_append]]
 exact h
end Go.Proofs.YtednaajanciabaaGreatDoor
