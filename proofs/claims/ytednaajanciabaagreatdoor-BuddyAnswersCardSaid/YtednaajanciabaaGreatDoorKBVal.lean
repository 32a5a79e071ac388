import Derived.Test.YtednaajanciabaaGreatDoorBBase
import Derived.Shelf.Abstract
import Derived.Handy
import Derived.Laws.ResultCell
set_option maxRecDepth 100000
set_option maxHeartbeats 8000000
set_option linter.unusedSimpArgs false
set_option linter.unusedVariables false
namespace Go.Proofs.YtednaajanciabaaGreatDoor
open Go.RowKit Go.Grid
abbrev Rdg:=List (Int × Int)
def RdgIn (w:World) (p:Option Addr) (R:Rdg):Prop:=∃ b o,(0 < R.length→p=some ⟨b,o,none⟩)∧∀ k (h:k < R.length),w.cell? ⟨b,o+k*2,none⟩=some (.int .i64 R[k].1)∧w.cell? ⟨b,o+k*2+1,none⟩=some (.int .i64 R[k].2)
theorem RdgIn.get {w:World} {p:Option Addr} {R:Rdg} (h:RdgIn w p R) (h0:0 < R.length):∃ b o,p=some ⟨b,o,none⟩∧b < w.heap.size∧∀ k (h:k < R.length),w.cell? ⟨b,o+k*2,none⟩=some (.int .i64 R[k].1)∧w.cell? ⟨b,o+k*2+1,none⟩=some (.int .i64 R[k].2):=by
 obtain⟨b,o,h1,h2⟩:=h
 exact⟨b,o,h1 h0,zM w _ (h2 0 h0).1,h2⟩
theorem RdgIn.turn {w w':World} {p:Option Addr} {R:Rdg} (h:RdgIn w p R) (hb:∀ a,p=some a→0 < R.length→w'.heap[a.block]?=w.heap[a.block]?):RdgIn w' p R:=by
 obtain⟨b,o,h1,h2⟩:=h
 refine⟨b,o,h1,fun k hk=>?_⟩
 have e:=hb _ (h1 (by omega)) (by omega)
 exact⟨(World.cell?_of_block (a:=⟨b,o+k*2,none⟩) e).trans (h2 k hk).1,(World.cell?_of_block (a:=⟨b,o+k*2+1,none⟩) e).trans (h2 k hk).2⟩
theorem RdgIn.lt {w:World} {p:Option Addr} {R:Rdg} (h:RdgIn w p R):∀ a,p=some a→0 < R.length→a.block < w.heap.size:=fun a ha h0=>by
 obtain⟨b,o,e,h1,_⟩:=h.get h0
 rw[ha] at e
 injection e with e
 rw[e];exact h1
theorem RdgIn.below {w w':World} {p:Option Addr} {R:Rdg} (h:RdgIn w p R) (hb:Below w.heap.size w w'):RdgIn w' p R:=h.turn (fun a ha h0=>hb.block _ (h.lt a ha h0))
theorem RdgIn.nil (w:World) (p:Option Addr):RdgIn w p []:=⟨0,0,fun h=>absurd h (by simp),fun k hk=>absurd hk (by simp)⟩
theorem RdgIn.gr {w w':World} {p:Option Addr} {R:Rdg} {g:Nat} (h:RdgIn w p R) (hg:w.grownBy w' (some g)) (hne:∀ a,p=some a→0 < R.length→a.block≠g):RdgIn w' p R:=h.turn (fun a ha h0=>hg.block _ (h.lt a ha h0) (fun e=>by injection e with e;exact hne a ha h0 e))
def idxI (R:Rdg) (t:Int × Int→Bool):Int:=match R.findIdx? t with
 |some k=>k
 |none=>-1
theorem idxI_hit {R:Rdg} {t:Int × Int→Bool} {k:Nat} (hk:k < R.length) (h1:∀ j (hj:j < k) (h:j < R.length),t R[j]=false) (h2:t R[k]=true):idxI R t=k:=by
 have e:R.findIdx? t=some k:=by
  rw[List.findIdx?_eq_some_iff_getElem]
  exact⟨hk,h2,fun j hj=>by rw[h1 j hj (by omega)];simp⟩
 unfold idxI
 rw[e]
theorem idxI_no {R:Rdg} {t:Int × Int→Bool} (h:∀ j (h:j < R.length),t R[j]=false):idxI R t=-1:=by
 have e:R.findIdx? t=none:=by
  rw[List.findIdx?_eq_none_iff]
  intro x hx
  obtain⟨j,hj,rfl⟩:=List.getElem_of_mem hx
  exact h j hj
 unfold idxI
 rw[e]
theorem idxI_any {R:Rdg} {t:Int × Int→Bool}:decide (0≤idxI R t)=R.any t:=by
 unfold idxI
 cases e:R.findIdx? t with
 |none=>
  rw[List.findIdx?_eq_none_iff] at e
  have h1:R.any t=false:=List.any_eq_false.2 (fun x hx=>by rw[e x hx];simp)
  rw[h1];rfl
 |some k=>
  rw[List.findIdx?_eq_some_iff_getElem] at e
  obtain⟨hk,h2,_⟩:=e
  have h1:R.any t=true:=List.any_eq_true.2 ⟨R[k],List.getElem_mem _,h2⟩
  rw[h1]
  exact zDt (by show (0:Int)≤(k:Int);omega)
def findL (R:Rdg) (c:Int):Option Int:=(R.find? (fun x=>x.1 == c)).map (·.2)
def fV (R:Rdg) (c:Int):Int:=(findL R c).getD 0
def fB (R:Rdg) (c:Int):Bool:=(findL R c).isSome
theorem findL_hit {R:Rdg} {c:Int} {k:Nat} (hk:k < R.length) (h1:∀ j (hj:j < k) (h:j < R.length),(R[j].1 == c)=false) (h2:(R[k].1 == c)=true):findL R c=some R[k].2:=by
 unfold findL
 have e:R.find? (fun x=>x.1 == c)=some R[k]:=by
  rw[List.find?_eq_some_iff_getElem]
  exact⟨h2,k,hk,rfl,fun j hj=>by rw[h1 j hj (by omega)];rfl⟩
 rw[e];rfl
theorem findL_no {R:Rdg} {c:Int} (h:∀ j (h:j < R.length),(R[j].1 == c)=false):findL R c=none:=by
 unfold findL
 have e:R.find? (fun x=>x.1 == c)=none:=by
  rw[List.find?_eq_none]
  intro x hx
  obtain⟨j,hj,rfl⟩:=List.getElem_of_mem hx
  rw[h j hj];simp
 rw[e];rfl
theorem index_rdg (p:Option Addr) (R:Rdg) (cap n pb:Nat) (w:World) (hl:R.length=n) (hV:RdgIn w p R) (hn:n≤1000000000) (g:FuncId) (t:Int × Int→Bool)
  (hen:∀ args w,(callFunc g args).run Tryz.prog w=.ok (.enter g args) w)
  (hq:∀ x∈R,∀ w',Below w.heap.size w w'→Calls Tryz.prog g #[.agg #[.int .i64 x.1,.int .i64 x.2],.pointer (some ⟨pb,0,none⟩)] w' fun e w''=>e=.returned (.bool (t x))∧Below w'.heap.size w' w'') :
  Calls Tryz.prog 66 #[.slice p n cap,.func (.func g) #[] #[.pointer (some ⟨pb,0,none⟩)]] w fun e w'=>e=.returned (.int .i64 (idxI R t))∧Below w.heap.size w w':=by
 have HQ:=zN hq
 have HV:=zN hV
 have HL:=zN hl
 clear hq hV hl
 go_enter Tryz.func66,Tryz.ntmps66
 go_wp2
 go_loopw [8] (fun a wr=>∃ k:Nat,k≤n∧a=.int .i64 (k:Int)∧Hid (∀ j (hj:j < k) (h:j < R.length),t R[j]=false)∧Below w.heap.size w wr) (fun a _=>n-(intOf a).toNat)
 case atStart=>exact⟨0,Nat.zero_le _,rfl,zN fun j hj=>by omega,zBr _ _⟩
 case round=>
  obtain⟨k,hk,rfl,HI,hb⟩:=hrel
  by_cases hlt:k < n
  ·have hltL:k < R.length:=by rw[HL.out];exact hlt
   obtain⟨b,o,rfl,hbl,hcell⟩:=(HV.out.below hb).get (by omega)
   obtain⟨k0,k1⟩:=hcell k hltL
   have hdk:decide ((k:Int) < (n:Int))=true:=zDt (by omega)
   have hk0:(0:Int)≤(k:Int):=by omega
   have hkI:(k:Int) < (n:Int):=by omega
   have HK:=zN (HQ.out R[k] (List.getElem_mem _) wr hb)
   obtain⟨x,hx⟩:∃ x,x=R[k]:=⟨_,rfl⟩
   rw[←hx] at k0 k1 HK
   have HX:=zN hx
   clear hx hcell
   go_wp2_with fail
   refine HK.out.mono ?_
   rintro e w1 ⟨rfl,hb1⟩
   have hb2:Below w.heap.size w w1:=hb.trans (hb1.mono hb.size)
   clear hb hb1 HK k0 k1
   cases he:t x
   ·have HE:=zN he
    clear he
    go_wp2
    go_roundw
    case rel=>exact⟨k+1,by omega,by go_num,zN fun j hj hd=>by
     by_cases hjk:j=k
     ·subst hjk;rw[←HX.out];exact HE.out
     ·exact HI.out j (by omega) hd,hb2⟩
    case measure=>simp[intOf]<;>omega
   ·have HE:=zN (idxI_hit hltL HI.out (by rw[←HX.out];exact he))
    clear he
    go_wp2
    go_ret
    refine⟨?_,hb2⟩
    rw[HE.out];rfl
  ·obtain rfl:k=n:=by omega
   have hdk:decide ((k:Int) < (k:Int))=false:=zDf (by omega)
   have HE:=zN (idxI_no (R:=R) (t:=t) (fun j hj=>HI.out j (by have:=HL.out;omega) hj))
   go_wp2
   go_ret
   refine⟨?_,hb⟩
   rw[HE.out];rfl
theorem find1_any (e v c:Int) (pb:Nat) (w:World) (hc:w.cell? ⟨pb,0,none⟩=some (.int .i64 c)) (hp:pb < w.heap.size):Calls Tryz.prog 67 #[.agg #[.int .i64 e,.int .i64 v],.pointer (some ⟨pb,0,none⟩)] w fun r w'=>r=.returned (.bool (e == c))∧Below w.heap.size w w':=by
 have hne:¬ pb=w.heap.size:=by omega
 go_enter Tryz.func67,Tryz.ntmps67
 go_wp2
 go_ret
 exact⟨rfl,(by repeat (first|(with_reducible first|assumption|exact zBr _ _|refine zBs ?_ (by first|omega|(simp<;>omega)) _|refine zBa ?_ (by first|omega|(simp<;>omega)) _|apply zBd)|assumption))⟩
theorem find_any (p:Option Addr) (R:Rdg) (cap n:Nat) (c:Int) (w:World) (hl:R.length=n) (hV:RdgIn w p R) (hn:n≤1000000000) :
  Calls Tryz.prog 41 #[.slice p n cap,.int .i64 c] w fun e w'=>e=.returned (.tuple #[.int .i64 (fV R c),.bool (fB R c)])∧Below w.heap.size w w':=by
 have hbA:Below w.heap.size w (w.alloc (.cells #[.int .i64 c] 3)):=(zBr _ _).alloc (Nat.le_refl _) _
 have HX:=zN (index_rdg p R cap n w.heap.size (w.alloc (.cells #[.int .i64 c] 3)) hl (hV.below hbA) hn 67 (fun x=>x.1 == c) (Go.Proofs.enters_of Tryz.func67 (by kernel_rfl) rfl) (fun x hx w' hb=>find1_any x.1 x.2 c _ w' (zP hb (by simp[zO,zJ,zQ])) (by have:=hb.size;simp at this;omega)))
 have HV:=zN hV
 have HL:=zN hl
 have HBA:=zN hbA
 clear hV hl hbA
 go_enter Tryz.func41,Tryz.ntmps41
 go_wp2_with fail
 refine HX.out.mono ?_
 rintro e w1 ⟨rfl,hb1⟩
 have HB1:=zN (HBA.out.trans (hb1.mono HBA.out.size))
 clear hb1
 by_cases hex:∃ k,∃ hk:k < R.length,(∀ j (hj:j < k) (h:j < R.length),(R[j].1 == c)=false)∧(R[k].1 == c)=true
 ·obtain⟨k,hk,h1,h2⟩:=hex
  have e1:=idxI_hit (t:=fun x=>x.1 == c) hk h1 h2
  have e2:=findL_hit hk h1 h2
  rw[e1]
  have HF:Hid (fV R c=R[k].2∧fB R c=true):=zN (by unfold fV fB;rw[e2];exact⟨rfl,rfl⟩)
  obtain⟨b,o,rfl,_,hcell⟩:=(HV.out.below HB1.out).get (by omega)
  have k1:=(hcell k hk).2
  have hdk:decide ((k:Int) < 0)=false:=zDf (by omega)
  have hk0:(0:Int)≤(k:Int):=by omega
  have hkI:(k:Int) < (n:Int):=by have:=HL.out;omega
  generalize R[k].2=v at *
  clear e1 e2 h1 h2 hcell
  go_wp2
  go_ret2
  exact⟨by rw[HF.out.1,HF.out.2];rfl,HB1.out⟩
 ·have hno:∀ j (h:j < R.length),(R[j].1 == c)=false:=by
   intro j
   induction j using Nat.strongRecOn with
   |_ j ih=>
    intro h
    by_cases e:(R[j].1 == c)=true
    ·exact absurd ⟨j,h,fun i hi hl=>ih i hi hl,e⟩ hex
    ·simpa using e
  have e1:=idxI_no (t:=fun x=>x.1 == c) hno
  have e2:=findL_no hno
  rw[e1]
  have HF:Hid (fV R c=0∧fB R c=false):=zN (by unfold fV fB;rw[e2];exact⟨rfl,rfl⟩)
  have hdk:decide ((-1:Int) < 0)=true:=rfl
  clear e1 e2 hno hex
  go_wp2
  go_ret2
  exact⟨by rw[HF.out.1,HF.out.2];rfl,HB1.out⟩
theorem rfind04_any (p:Option Addr) (R:Rdg) (cap n:Nat) (c:Int) (w:World) (hl:R.length=n) (hV:RdgIn w p R) (hn:n≤1000000000) :
  Calls Tryz.prog 14 #[.slice p n cap,.int .i64 c] w fun e w'=>e=.returned (.tuple #[.int .i64 (fV R c),.bool (fB R c)])∧w=w':=by
 have HV:=zN hV
 have HL:=zN hl
 clear hV hl
 go_enter Tryz.func14,Tryz.ntmps14
 go_wp2
 go_loopw [6] (fun a wr=>∃ k:Nat,k≤n∧a=.int .i64 (k:Int)∧Hid (∀ j (hj:j < k) (h:j < R.length),(R[j].1 == c)=false)∧wr=w) (fun a _=>n-(intOf a).toNat)
 case atStart=>exact⟨0,Nat.zero_le _,rfl,zN fun j hj=>by omega,rfl⟩
 case round=>
  obtain⟨k,hk,rfl,HI,rfl⟩:=hrel
  by_cases hlt:k < n
  ·have hltL:k < R.length:=by rw[HL.out];exact hlt
   obtain⟨b,o,rfl,hbl,hcell⟩:=HV.out.get (by omega)
   obtain⟨k0,k1⟩:=hcell k hltL
   have hdk:decide ((k:Int) < (n:Int))=true:=zDt (by omega)
   have hk0:(0:Int)≤(k:Int):=by omega
   have hkI:(k:Int) < (n:Int):=by omega
   obtain⟨x,hx⟩:∃ x,x=R[k]:=⟨_,rfl⟩
   rw[←hx] at k0 k1
   have HX:=zN hx
   clear hx hcell
   by_cases he:x.1=c
   ·have hb:(x.1 == c)=true:=by rw[beq_iff_eq];exact he
    have HF:Hid (fV R c=x.2∧fB R c=true):=zN (by
     have e2:=findL_hit hltL HI.out (by rw[←HX.out];exact hb)
     unfold fV fB
     rw[e2,←HX.out];exact⟨rfl,rfl⟩)
    subst he
    go_wp2
    go_ret2
    exact⟨by rw[HF.out.1,HF.out.2];rfl,rfl⟩
   ·have hb:(x.1 == c)=false:=by rw[beq_eq_false_iff_ne];exact he
    have HE:=zN hb
    go_wp2
    go_roundw
    case rel=>exact⟨k+1,by omega,by go_num,(zN fun j hj hd=>by
     by_cases hjk:j=k
     ·subst hjk;rw[←HX.out];exact HE.out
     ·exact HI.out j (by omega) hd),by first|rfl|trivial⟩
    case measure=>simp[intOf]<;>omega
  ·have hdk:decide ((k:Int) < (n:Int))=false:=zDf (by omega)
   have HF:Hid (fV R c=0∧fB R c=false):=zN (by
    have e2:=findL_no (R:=R) (c:=c) (fun j hj=>HI.out j (by have:=HL.out;omega) hj)
    unfold fV fB
    rw[e2];exact⟨rfl,rfl⟩)
   go_wp2
   go_ret2
   exact⟨by rw[HF.out.1,HF.out.2];rfl,rfl⟩
def bnd (c:Int):Int × Int:=
 if c=1 then (8000,11000) else if c=2 then (1800,3300) else if c=3 then (1800,3300) else if c=4 then (-1000,1000) else if c=5 then (-1000,1000) else if c=6 then (900,1700) else if c=7 then (2000,3200) else if c=8 then (2400,3400) else if c=9 then (2000,3000) else if c=10 then (4400,6200) else (2000,2900)
def HasBnd (w:World):Prop:=∀ c:Nat,c < 11→w.cell? ⟨0,c*2,none⟩=some (.int .i64 (bnd (c+1)).1)∧w.cell? ⟨0,c*2+1,none⟩=some (.int .i64 (bnd (c+1)).2)
theorem HasBnd.lt {w:World} (h:HasBnd w):0 < w.heap.size:=zM w _ (h 0 (by omega)).1
theorem HasBnd.kept {w w':World} (h:HasBnd w) (hb:w'.heap[0]?=w.heap[0]?):HasBnd w':=fun c hc=>by
 obtain⟨h1,h2⟩:=h c hc
 exact⟨(World.cell?_of_block hb).trans h1,(World.cell?_of_block hb).trans h2⟩
theorem HasBnd.below {w w':World} (h:HasBnd w) (hb:Below w.heap.size w w'):HasBnd w':=h.kept (hb.block _ h.lt)
def okC (c:Int):Prop:=1≤c∧c≤11
instance (c:Int):Decidable (okC c):=by unfold okC;infer_instance
theorem describe_no (c:Int) (h:¬ okC c) (w:World):Calls Tryz.prog 111 #[.int .i64 c] w fun e w'=>e=.returned (.tuple #[.agg #[.string ⟨#[]⟩,.int .i64 0,.int .i64 0,.int .i64 0],.int .i64 4])∧Below w.heap.size w w':=by
 by_cases h1:c < 1
 ·clear h
  go_enter Tryz.func111,Tryz.ntmps111
  go_wp2
  go_returns
  exact⟨rfl,(by repeat (first|(with_reducible first|assumption|exact zBr _ _|refine zBs ?_ (by first|omega|(simp<;>omega)) _|refine zBa ?_ (by first|omega|(simp<;>omega)) _|apply zBd)|assumption))⟩
 ·have h2:11 < c:=by unfold okC at h;omega
  have h3:1≤c:=by omega
  clear h h1
  go_enter Tryz.func111,Tryz.ntmps111
  go_wp2
  go_returns
  exact⟨rfl,(by repeat (first|(with_reducible first|assumption|exact zBr _ _|refine zBs ?_ (by first|omega|(simp<;>omega)) _|refine zBa ?_ (by first|omega|(simp<;>omega)) _|apply zBd)|assumption))⟩
theorem describe_ok (c:Int) (h:okC c) (w:World) (hB:HasBnd w):Calls Tryz.prog 111 #[.int .i64 c] w fun e w'=>∃ s d,e=.returned (.tuple #[.agg #[.string s,.int .i64 (bnd c).1,.int .i64 (bnd c).2,.int .i64 d],.int .i64 0])∧Below w.heap.size w w':=by
 obtain⟨n,hn⟩:∃ n:Nat,c=(n:Int)+1:=⟨(c-1).toNat,by unfold okC at h;omega⟩
 have hn11:n < 11:=by unfold okC at h;omega
 subst hn
 obtain⟨k0,k1⟩:=hB n hn11
 have hlt:=hB.lt
 have hpz0:0 < w.heap.size:=by omega
 have hpz1:1≤w.heap.size:=by omega
 have hci:(n:Int)+1-1=(n:Int):=by omega
 clear hB h
 obtain⟨b0,hb0⟩:∃ b,b=(bnd ((n:Int)+1)).1:=⟨_,rfl⟩
 obtain⟨b1,hb1⟩:∃ b,b=(bnd ((n:Int)+1)).2:=⟨_,rfl⟩
 rw[←hb0] at k0 ⊢
 rw[←hb1] at k1 ⊢
 clear hb0 hb1
 have hn0:(0:Int)≤(n:Int):=by omega
 have hnI:(n:Int) < 11:=by omega
 by_cases hn1:n=0
 ·subst hn1
  go_enter Tryz.func111,Tryz.ntmps111
  go_wp2_with fail
  refine RX.region RX.fN (fun w'=>w'.cell? ⟨w.heap.size+1,0,none⟩=some (.int .i64 b0)∧w'.cell? ⟨w.heap.size+1,1,none⟩=some (.int .i64 b1)) (by kernel_rfl) (by kernel_rfl) (⟨(by simp[zO,zJ,zQ]),(by simp[zO,zJ,zQ])⟩) (fun OPS HO QR hQR=>?_)
  repeat (refine zeX (fun R hR=>?_);(first|refine zaX (by first|rfl|(rw[HO.out];rfl)) (by simp only[zA,zB,zC,zD];rfl) ?_|refine zbX (by first|rfl|(rw[HO.out];rfl)) rfl (by first|exact .inl rfl|exact .inr rfl) (by simp only[zE,zF,zG,zH];rfl) (by simp only[zA,zB,zC,zD];rfl) ?_|refine zcX (by first|rfl|(rw[HO.out];rfl)) rfl rfl (by simp only[zE,zF,zG,zH];rfl) (by simp only[zA,zB,zC,zD];rfl) ?_|(refine zdX (by first|rfl|(rw[HO.out];rfl)) rfl rfl rfl ?_;apply zEx;apply zEx;refine⟨fun w' hS K hK=>?_,?_,?_⟩;(focus (obtain⟨s0,s1⟩:=hS;go_wp2;exact hK _ _ (by simp only[zl,zG,zH];first|exact zf (by omega)|exact zg (by omega)|exact zh (by omega)|exact zi (by omega)|exact zj (by omega)|exact zk (by omega)|exact RX.bneB _|rfl) rfl));(focus (simp only[zA,zB,zC,zD];rfl))));refine hR _ _ ?_;clear hR R)
  refine zeX (fun R hR=>?_)
  refine zgX (by first|rfl|(rw[HO.out];rfl)) rfl (fun K hK=>?_)
  go_wp2
  refine⟨⟨(by simp[zO,zJ,zQ]),(by simp[zO,zJ,zQ])⟩,hR _ _ ?_⟩;clear hR R
  repeat (refine zeX (fun R hR=>?_);(first|refine zaX (by first|rfl|(rw[HO.out];rfl)) (by simp only[zA,zB,zC,zD];rfl) ?_|refine zbX (by first|rfl|(rw[HO.out];rfl)) rfl (by first|exact .inl rfl|exact .inr rfl) (by simp only[zE,zF,zG,zH];rfl) (by simp only[zA,zB,zC,zD];rfl) ?_|refine zcX (by first|rfl|(rw[HO.out];rfl)) rfl rfl (by simp only[zE,zF,zG,zH];rfl) (by simp only[zA,zB,zC,zD];rfl) ?_|(refine zdX (by first|rfl|(rw[HO.out];rfl)) rfl rfl rfl ?_;apply zEx;apply zEx;refine⟨fun w' hS K hK=>?_,?_,?_⟩;(focus (obtain⟨s0,s1⟩:=hS;go_wp2;exact hK _ _ (by simp only[zl,zG,zH];first|exact zf (by omega)|exact zg (by omega)|exact zh (by omega)|exact zi (by omega)|exact zj (by omega)|exact zk (by omega)|exact RX.bneB _|rfl) rfl));(focus (simp only[zA,zB,zC,zD];rfl))));refine hR _ _ ?_;clear hR R)
  refine zeX (fun R hR=>?_)
  refine zgX (by first|rfl|(rw[HO.out];rfl)) rfl (fun K hK=>?_)
  go_wp2
  refine⟨⟨(by simp[zO,zJ,zQ]),(by simp[zO,zJ,zQ])⟩,hR _ _ ?_⟩;clear hR R
  repeat (refine zeX (fun R hR=>?_);(first|refine zaX (by first|rfl|(rw[HO.out];rfl)) (by simp only[zA,zB,zC,zD];rfl) ?_|refine zbX (by first|rfl|(rw[HO.out];rfl)) rfl (by first|exact .inl rfl|exact .inr rfl) (by simp only[zE,zF,zG,zH];rfl) (by simp only[zA,zB,zC,zD];rfl) ?_|refine zcX (by first|rfl|(rw[HO.out];rfl)) rfl rfl (by simp only[zE,zF,zG,zH];rfl) (by simp only[zA,zB,zC,zD];rfl) ?_|(refine zdX (by first|rfl|(rw[HO.out];rfl)) rfl rfl rfl ?_;apply zEx;apply zEx;refine⟨fun w' hS K hK=>?_,?_,?_⟩;(focus (obtain⟨s0,s1⟩:=hS;go_wp2;exact hK _ _ (by simp only[zl,zG,zH];first|exact zf (by omega)|exact zg (by omega)|exact zh (by omega)|exact zi (by omega)|exact zj (by omega)|exact zk (by omega)|exact RX.bneB _|rfl) rfl));(focus (simp only[zA,zB,zC,zD];rfl))));refine hR _ _ ?_;clear hR R)
  refine RX.wpL_nil (hQR _ _ (⟨(by simp[zO,zJ,zQ]),(by simp[zO,zJ,zQ])⟩) ?_);clear hQR QR HO OPS
  go_wp2
  go_returns
  exact⟨_,_,rfl,(by repeat (first|(with_reducible first|assumption|exact zBr _ _|refine zBs ?_ (by first|omega|(simp<;>omega)) _|refine zBa ?_ (by first|omega|(simp<;>omega)) _|apply zBd)|assumption))⟩
 ·have hne:((n:Int)+1 == 1)=false:=by rw[beq_eq_false_iff_ne];omega
  go_enter Tryz.func111,Tryz.ntmps111
  go_wp2_with fail
  refine RX.region RX.fN (fun w'=>w'.cell? ⟨w.heap.size+1,0,none⟩=some (.int .i64 b0)∧w'.cell? ⟨w.heap.size+1,1,none⟩=some (.int .i64 b1)) (by kernel_rfl) (by kernel_rfl) (⟨(by simp[zO,zJ,zQ]),(by simp[zO,zJ,zQ])⟩) (fun OPS HO QR hQR=>?_)
  repeat (refine zeX (fun R hR=>?_);(first|refine zaX (by first|rfl|(rw[HO.out];rfl)) (by simp only[zA,zB,zC,zD];rfl) ?_|refine zbX (by first|rfl|(rw[HO.out];rfl)) rfl (by first|exact .inl rfl|exact .inr rfl) (by simp only[zE,zF,zG,zH];rfl) (by simp only[zA,zB,zC,zD];rfl) ?_|refine zcX (by first|rfl|(rw[HO.out];rfl)) rfl rfl (by simp only[zE,zF,zG,zH];rfl) (by simp only[zA,zB,zC,zD];rfl) ?_|(refine zdX (by first|rfl|(rw[HO.out];rfl)) rfl rfl rfl ?_;apply zEx;apply zEx;refine⟨fun w' hS K hK=>?_,?_,?_⟩;(focus (obtain⟨s0,s1⟩:=hS;go_wp2;exact hK _ _ (by simp only[zl,zG,zH];first|exact zf (by omega)|exact zg (by omega)|exact zh (by omega)|exact zi (by omega)|exact zj (by omega)|exact zk (by omega)|exact RX.bneB _|rfl) rfl));(focus (simp only[zA,zB,zC,zD];rfl))));refine hR _ _ ?_;clear hR R)
  refine zeX (fun R hR=>?_)
  refine zgX (by first|rfl|(rw[HO.out];rfl)) rfl (fun K hK=>?_)
  go_wp2
  refine⟨⟨(by simp[zO,zJ,zQ]),(by simp[zO,zJ,zQ])⟩,hR _ _ ?_⟩;clear hR R
  repeat (refine zeX (fun R hR=>?_);(first|refine zaX (by first|rfl|(rw[HO.out];rfl)) (by simp only[zA,zB,zC,zD];rfl) ?_|refine zbX (by first|rfl|(rw[HO.out];rfl)) rfl (by first|exact .inl rfl|exact .inr rfl) (by simp only[zE,zF,zG,zH];rfl) (by simp only[zA,zB,zC,zD];rfl) ?_|refine zcX (by first|rfl|(rw[HO.out];rfl)) rfl rfl (by simp only[zE,zF,zG,zH];rfl) (by simp only[zA,zB,zC,zD];rfl) ?_|(refine zdX (by first|rfl|(rw[HO.out];rfl)) rfl rfl rfl ?_;apply zEx;apply zEx;refine⟨fun w' hS K hK=>?_,?_,?_⟩;(focus (obtain⟨s0,s1⟩:=hS;go_wp2;exact hK _ _ (by simp only[zl,zG,zH];first|exact zf (by omega)|exact zg (by omega)|exact zh (by omega)|exact zi (by omega)|exact zj (by omega)|exact zk (by omega)|exact RX.bneB _|rfl) rfl));(focus (simp only[zA,zB,zC,zD];rfl))));refine hR _ _ ?_;clear hR R)
  refine zeX (fun R hR=>?_)
  refine zgX (by first|rfl|(rw[HO.out];rfl)) rfl (fun K hK=>?_)
  go_wp2
  refine⟨⟨(by simp[zO,zJ,zQ]),(by simp[zO,zJ,zQ])⟩,hR _ _ ?_⟩;clear hR R
  repeat (refine zeX (fun R hR=>?_);(first|refine zaX (by first|rfl|(rw[HO.out];rfl)) (by simp only[zA,zB,zC,zD];rfl) ?_|refine zbX (by first|rfl|(rw[HO.out];rfl)) rfl (by first|exact .inl rfl|exact .inr rfl) (by simp only[zE,zF,zG,zH];rfl) (by simp only[zA,zB,zC,zD];rfl) ?_|refine zcX (by first|rfl|(rw[HO.out];rfl)) rfl rfl (by simp only[zE,zF,zG,zH];rfl) (by simp only[zA,zB,zC,zD];rfl) ?_|(refine zdX (by first|rfl|(rw[HO.out];rfl)) rfl rfl rfl ?_;apply zEx;apply zEx;refine⟨fun w' hS K hK=>?_,?_,?_⟩;(focus (obtain⟨s0,s1⟩:=hS;go_wp2;exact hK _ _ (by simp only[zl,zG,zH];first|exact zf (by omega)|exact zg (by omega)|exact zh (by omega)|exact zi (by omega)|exact zj (by omega)|exact zk (by omega)|exact RX.bneB _|rfl) rfl));(focus (simp only[zA,zB,zC,zD];rfl))));refine hR _ _ ?_;clear hR R)
  refine RX.wpL_nil (hQR _ _ (⟨(by simp[zO,zJ,zQ]),(by simp[zO,zJ,zQ])⟩) ?_);clear hQR QR HO OPS
  go_wp2
  go_returns
  exact⟨_,_,rfl,(by repeat (first|(with_reducible first|assumption|exact zBr _ _|refine zBs ?_ (by first|omega|(simp<;>omega)) _|refine zBa ?_ (by first|omega|(simp<;>omega)) _|apply zBd)|assumption))⟩
def checkE (e v:Int):Int:=if okC e then (if v < (bnd e).1∨(bnd e).2 < v then 1 else 0) else 4
theorem check_any (e v:Int) (w:World) (hB:HasBnd w):Calls Tryz.prog 80 #[.agg #[.int .i64 e,.int .i64 v]] w fun r w'=>r=.returned (.int .i64 (checkE e v))∧Below w.heap.size w w':=by
 have HB:=zN hB
 have hbA:Below w.heap.size w (w.alloc (.cells #[.int .i64 e,.int .i64 v] 55)):=(zBr _ _).alloc (Nat.le_refl _) _
 have HBA:=zN hbA
 clear hB hbA
 by_cases h:okC e
 ·have HD:=zN (describe_ok e h (w.alloc (.cells #[.int .i64 e,.int .i64 v] 55)) (HB.out.below HBA.out))
  have HE:Hid (checkE e v=if v < (bnd e).1∨(bnd e).2 < v then 1 else 0):=zN (if_pos h)
  generalize (bnd e).1=lo at *
  generalize (bnd e).2=hi at *
  clear h
  go_enter Tryz.func80,Tryz.ntmps80
  go_wp2_with fail
  refine HD.out.mono ?_
  rintro r w1 ⟨s,d,rfl,hb1⟩
  have c1:w1.cell? ⟨w.heap.size,1,none⟩=some (.int .i64 v):=zP hb1 (by simp[zO,zJ,zQ])
  have hlt:=zM _ _ c1
  have HB1:=zN (HBA.out.trans (hb1.mono HBA.out.size))
  have hsz1:=HB1.out.size
  have hbF:Below w.heap.size w1 (w1.alloc (.cells #[.string s,.int .i64 lo,.int .i64 hi,.int .i64 d] 92)):=(zBr _ _).alloc hsz1 _
  have HBF:=zN (HB1.out.trans hbF)
  have hne:¬ w.heap.size=w1.heap.size:=by simp only at hlt;omega
  clear HD hb1 hbF
  by_cases h1:v < lo
  ·have HF:Hid (checkE e v=1):=zN (by rw[HE.out,if_pos (.inl h1)])
   go_wp2
   go_ret
   exact⟨by rw[HF.out];rfl,HBF.out⟩
  ·by_cases h2:hi < v
   ·have HF:Hid (checkE e v=1):=zN (by rw[HE.out,if_pos (.inr h2)])
    have h1':lo≤v:=by omega
    clear h1
    go_wp2
    go_ret
    exact⟨by rw[HF.out];rfl,HBF.out⟩
   ·have HF:Hid (checkE e v=0):=zN (by rw[HE.out,if_neg (by omega)])
    have h1':lo≤v:=by omega
    have h2':v≤hi:=by omega
    clear h1 h2
    go_wp2
    go_ret
    exact⟨by rw[HF.out];rfl,HBF.out⟩
 ·have HD:=zN (describe_no e h (w.alloc (.cells #[.int .i64 e,.int .i64 v] 55)))
  have HF:Hid (checkE e v=4):=zN (if_neg h)
  clear h
  go_enter Tryz.func80,Tryz.ntmps80
  go_wp2_with fail
  refine HD.out.mono ?_
  rintro r w1 ⟨rfl,hb1⟩
  have HB1:=zN (HBA.out.trans (hb1.mono HBA.out.size))
  have hsz1:=HB1.out.size
  clear hb1 HD
  go_wp2
  go_ret
  exact⟨by rw[HF.out];rfl,HB1.out.trans (by repeat (first|(with_reducible first|assumption|exact zBr _ _|refine zBs ?_ (by first|omega|(simp<;>omega)) _|refine zBa ?_ (by first|omega|(simp<;>omega)) _|apply zBd)|assumption))⟩
theorem contains_rdg (p:Option Addr) (R:Rdg) (cap n pb:Nat) (w:World) (hl:R.length=n) (hV:RdgIn w p R) (hn:n≤1000000000) (g:FuncId) (t:Int × Int→Bool)
  (hen:∀ args w,(callFunc g args).run Tryz.prog w=.ok (.enter g args) w)
  (hq:∀ x∈R,∀ w',Below w.heap.size w w'→Calls Tryz.prog g #[.agg #[.int .i64 x.1,.int .i64 x.2],.pointer (some ⟨pb,0,none⟩)] w' fun e w''=>e=.returned (.bool (t x))∧Below w'.heap.size w' w'') :
  Calls Tryz.prog 78 #[.slice p n cap,.func (.func g) #[] #[.pointer (some ⟨pb,0,none⟩)]] w fun e w'=>e=.returned (.bool (R.any t))∧Below w.heap.size w w':=by
 have HI:=zN (index_rdg p R cap n pb w hl hV hn g t hen hq)
 have HA:=zN (idxI_any (R:=R) (t:=t))
 generalize idxI R t=z at *
 generalize R.any t=b at *
 clear hl hV hq hen
 go_enter Tryz.func78,Tryz.ntmps78
 go_wp2_with fail
 refine HI.out.mono ?_
 rintro e w1 ⟨rfl,hb⟩
 clear HI
 go_wp2
 go_ret
 refine⟨?_,hb⟩
 rw[←HA.out];rfl
theorem val11_any (e v bad:Int) (pb:Nat) (w:World) (hB:HasBnd w) (hc:w.cell? ⟨pb,0,none⟩=some (.int .i64 bad)) (hp:pb < w.heap.size) :
  Calls Tryz.prog 79 #[.agg #[.int .i64 e,.int .i64 v],.pointer (some ⟨pb,0,none⟩)] w fun r w'=>r=.returned (.bool (checkE e v == bad))∧Below w.heap.size w w':=by
 have hne:¬ pb=w.heap.size:=by omega
 have HB:=zN hB
 have hbA:Below w.heap.size w (w.alloc (.cells #[.int .i64 e,.int .i64 v] 55)):=(zBr _ _).alloc (Nat.le_refl _) _
 have HBA:=zN hbA
 have hSS:(w.alloc (.cells #[.int .i64 e,.int .i64 v] 55)).drew.cell? ⟨w.heap.size,0,none⟩=some (.int .i64 e)∧(w.alloc (.cells #[.int .i64 e,.int .i64 v] 55)).drew.cell? ⟨w.heap.size,1,none⟩=some (.int .i64 v)∧(w.alloc (.cells #[.int .i64 e,.int .i64 v] 55)).drew.cell? ⟨pb,0,none⟩=some (.int .i64 bad):=⟨(by simp[zO,zJ,zQ]),(by simp[zO,zJ,zQ]),(by (try have hLt:=zM _ _ hc);(try simp only at hLt);(repeat first|rw[zO]|rw[zK _ _ _ _ (by first|(simp<;>omega)|omega)]|rw[zJ,if_neg (by first|(simp<;>omega)|omega)]);first|exact hc|(rw[zJ,if_pos (by first|(simp;done)|omega)];exact hc))⟩
 have HD:=zN (check_any e v (w.alloc (.cells #[.int .i64 e,.int .i64 v] 55)).drew (HB.out.below (hbA.trans (zBd (zBr _ _)))))
 obtain⟨ce,hce⟩:∃ ce,ce=checkE e v:=⟨_,rfl⟩
 rw[←hce] at HD ⊢
 clear hB hbA hce
 go_enter Tryz.func79,Tryz.ntmps79
 go_wp2_with fail
 refine RX.region RX.fN (fun w'=>w'.cell? ⟨w.heap.size,0,none⟩=some (.int .i64 e)∧w'.cell? ⟨w.heap.size,1,none⟩=some (.int .i64 v)∧w'.cell? ⟨pb,0,none⟩=some (.int .i64 bad)) (by kernel_rfl) (by kernel_rfl) (hSS) (fun OPS HO QR hQR=>?_)
 repeat (refine zeX (fun R hR=>?_);(first|refine zaX (by first|rfl|(rw[HO.out];rfl)) (by simp only[zA,zB,zC,zD];rfl) ?_|refine zbX (by first|rfl|(rw[HO.out];rfl)) rfl (by first|exact .inl rfl|exact .inr rfl) (by simp only[zE,zF,zG,zH];rfl) (by simp only[zA,zB,zC,zD];rfl) ?_|refine zcX (by first|rfl|(rw[HO.out];rfl)) rfl rfl (by simp only[zE,zF,zG,zH];rfl) (by simp only[zA,zB,zC,zD];rfl) ?_|(refine zdX (by first|rfl|(rw[HO.out];rfl)) rfl rfl rfl ?_;apply zEx;apply zEx;refine⟨fun w' hS K hK=>?_,?_,?_⟩;(focus (obtain⟨s0,s1,s2⟩:=hS;go_wp2;exact hK _ _ (by simp only[zl,zG,zH];first|exact zf (by omega)|exact zg (by omega)|exact zh (by omega)|exact zi (by omega)|exact zj (by omega)|exact zk (by omega)|exact RX.bneB _|rfl) rfl));(focus (simp only[zA,zB,zC,zD];rfl))));refine hR _ _ ?_;clear hR R)
 refine zeX (fun R hR=>?_)
 refine zgX (by first|rfl|(rw[HO.out];rfl)) rfl (fun K hK=>?_)
 go_wp2_with fail
 refine HD.out.mono ?_
 rintro r w1 ⟨rfl,hb1⟩
 have hS1:w1.cell? ⟨w.heap.size,0,none⟩=some (.int .i64 e)∧w1.cell? ⟨w.heap.size,1,none⟩=some (.int .i64 v)∧w1.cell? ⟨pb,0,none⟩=some (.int .i64 bad):=⟨zP hb1 hSS.1,zP hb1 hSS.2.1,zP hb1 hSS.2.2⟩
 have HB1:Hid (Below w.heap.size w w1):=zN (HBA.out.trans ((show Below _ _ _ from (zBd (zBr _ _)).trans hb1).mono HBA.out.size))
 clear hb1 hSS HD
 refine hK _ _ ⟨hS1,hR _ _ ?_⟩;clear hK K hR R
 repeat (refine zeX (fun R hR=>?_);(first|refine zaX (by first|rfl|(rw[HO.out];rfl)) (by simp only[zA,zB,zC,zD];rfl) ?_|refine zbX (by first|rfl|(rw[HO.out];rfl)) rfl (by first|exact .inl rfl|exact .inr rfl) (by simp only[zE,zF,zG,zH];rfl) (by simp only[zA,zB,zC,zD];rfl) ?_|refine zcX (by first|rfl|(rw[HO.out];rfl)) rfl rfl (by simp only[zE,zF,zG,zH];rfl) (by simp only[zA,zB,zC,zD];rfl) ?_|(refine zdX (by first|rfl|(rw[HO.out];rfl)) rfl rfl rfl ?_;apply zEx;apply zEx;refine⟨fun w' hS K hK=>?_,?_,?_⟩;(focus (obtain⟨s0,s1,s2⟩:=hS;go_wp2;exact hK _ _ (by simp only[zl,zG,zH];first|exact zf (by omega)|exact zg (by omega)|exact zh (by omega)|exact zi (by omega)|exact zj (by omega)|exact zk (by omega)|exact RX.bneB _|rfl) rfl));(focus (simp only[zA,zB,zC,zD];rfl))));refine hR _ _ ?_;clear hR R)
 refine RX.wpL_nil (hQR _ _ (hS1) ?_);clear hQR QR HO OPS
 go_wp2
 go_ret
 exact⟨rfl,HB1.out⟩
theorem rdesc1 (w:World):Calls Tryz.prog 51 #[.int .i64 1] w fun e w'=>∃ s d,e=.returned (.tuple #[.agg #[.string s,.int .i64 (bnd 1).1,.int .i64 (bnd 1).2,.int .i64 d],.int .i64 0])∧Below w.heap.size w w':=by
 go_enter Tryz.func51,Tryz.ntmps51
 go_wp2
 go_returns
 exact⟨_,_,rfl,(by repeat (first|(with_reducible first|assumption|exact zBr _ _|refine zBs ?_ (by first|omega|(simp<;>omega)) _|refine zBa ?_ (by first|omega|(simp<;>omega)) _|apply zBd)|assumption))⟩
theorem rdesc2 (w:World):Calls Tryz.prog 51 #[.int .i64 2] w fun e w'=>∃ s d,e=.returned (.tuple #[.agg #[.string s,.int .i64 (bnd 2).1,.int .i64 (bnd 2).2,.int .i64 d],.int .i64 0])∧Below w.heap.size w w':=by
 go_enter Tryz.func51,Tryz.ntmps51
 go_wp2
 go_returns
 exact⟨_,_,rfl,(by repeat (first|(with_reducible first|assumption|exact zBr _ _|refine zBs ?_ (by first|omega|(simp<;>omega)) _|refine zBa ?_ (by first|omega|(simp<;>omega)) _|apply zBd)|assumption))⟩
theorem rdesc3 (w:World):Calls Tryz.prog 51 #[.int .i64 3] w fun e w'=>∃ s d,e=.returned (.tuple #[.agg #[.string s,.int .i64 (bnd 3).1,.int .i64 (bnd 3).2,.int .i64 d],.int .i64 0])∧Below w.heap.size w w':=by
 go_enter Tryz.func51,Tryz.ntmps51
 go_wp2
 go_returns
 exact⟨_,_,rfl,(by repeat (first|(with_reducible first|assumption|exact zBr _ _|refine zBs ?_ (by first|omega|(simp<;>omega)) _|refine zBa ?_ (by first|omega|(simp<;>omega)) _|apply zBd)|assumption))⟩
theorem rdesc4 (w:World):Calls Tryz.prog 51 #[.int .i64 4] w fun e w'=>∃ s d,e=.returned (.tuple #[.agg #[.string s,.int .i64 (bnd 4).1,.int .i64 (bnd 4).2,.int .i64 d],.int .i64 0])∧Below w.heap.size w w':=by
 go_enter Tryz.func51,Tryz.ntmps51
 go_wp2
 go_returns
 exact⟨_,_,rfl,(by repeat (first|(with_reducible first|assumption|exact zBr _ _|refine zBs ?_ (by first|omega|(simp<;>omega)) _|refine zBa ?_ (by first|omega|(simp<;>omega)) _|apply zBd)|assumption))⟩
theorem rdesc5 (w:World):Calls Tryz.prog 51 #[.int .i64 5] w fun e w'=>∃ s d,e=.returned (.tuple #[.agg #[.string s,.int .i64 (bnd 5).1,.int .i64 (bnd 5).2,.int .i64 d],.int .i64 0])∧Below w.heap.size w w':=by
 go_enter Tryz.func51,Tryz.ntmps51
 go_wp2
 go_returns
 exact⟨_,_,rfl,(by repeat (first|(with_reducible first|assumption|exact zBr _ _|refine zBs ?_ (by first|omega|(simp<;>omega)) _|refine zBa ?_ (by first|omega|(simp<;>omega)) _|apply zBd)|assumption))⟩
theorem rdesc6 (w:World):Calls Tryz.prog 51 #[.int .i64 6] w fun e w'=>∃ s d,e=.returned (.tuple #[.agg #[.string s,.int .i64 (bnd 6).1,.int .i64 (bnd 6).2,.int .i64 d],.int .i64 0])∧Below w.heap.size w w':=by
 go_enter Tryz.func51,Tryz.ntmps51
 go_wp2
 go_returns
 exact⟨_,_,rfl,(by repeat (first|(with_reducible first|assumption|exact zBr _ _|refine zBs ?_ (by first|omega|(simp<;>omega)) _|refine zBa ?_ (by first|omega|(simp<;>omega)) _|apply zBd)|assumption))⟩
theorem rdesc7 (w:World):Calls Tryz.prog 51 #[.int .i64 7] w fun e w'=>∃ s d,e=.returned (.tuple #[.agg #[.string s,.int .i64 (bnd 7).1,.int .i64 (bnd 7).2,.int .i64 d],.int .i64 0])∧Below w.heap.size w w':=by
 go_enter Tryz.func51,Tryz.ntmps51
 go_wp2
 go_returns
 exact⟨_,_,rfl,(by repeat (first|(with_reducible first|assumption|exact zBr _ _|refine zBs ?_ (by first|omega|(simp<;>omega)) _|refine zBa ?_ (by first|omega|(simp<;>omega)) _|apply zBd)|assumption))⟩
theorem rdesc8 (w:World):Calls Tryz.prog 51 #[.int .i64 8] w fun e w'=>∃ s d,e=.returned (.tuple #[.agg #[.string s,.int .i64 (bnd 8).1,.int .i64 (bnd 8).2,.int .i64 d],.int .i64 0])∧Below w.heap.size w w':=by
 go_enter Tryz.func51,Tryz.ntmps51
 go_wp2
 go_returns
 exact⟨_,_,rfl,(by repeat (first|(with_reducible first|assumption|exact zBr _ _|refine zBs ?_ (by first|omega|(simp<;>omega)) _|refine zBa ?_ (by first|omega|(simp<;>omega)) _|apply zBd)|assumption))⟩
theorem rdesc9 (w:World):Calls Tryz.prog 51 #[.int .i64 9] w fun e w'=>∃ s d,e=.returned (.tuple #[.agg #[.string s,.int .i64 (bnd 9).1,.int .i64 (bnd 9).2,.int .i64 d],.int .i64 0])∧Below w.heap.size w w':=by
 go_enter Tryz.func51,Tryz.ntmps51
 go_wp2
 go_returns
 exact⟨_,_,rfl,(by repeat (first|(with_reducible first|assumption|exact zBr _ _|refine zBs ?_ (by first|omega|(simp<;>omega)) _|refine zBa ?_ (by first|omega|(simp<;>omega)) _|apply zBd)|assumption))⟩
theorem rdesc10 (w:World):Calls Tryz.prog 51 #[.int .i64 10] w fun e w'=>∃ s d,e=.returned (.tuple #[.agg #[.string s,.int .i64 (bnd 10).1,.int .i64 (bnd 10).2,.int .i64 d],.int .i64 0])∧Below w.heap.size w w':=by
 go_enter Tryz.func51,Tryz.ntmps51
 go_wp2
 go_returns
 exact⟨_,_,rfl,(by repeat (first|(with_reducible first|assumption|exact zBr _ _|refine zBs ?_ (by first|omega|(simp<;>omega)) _|refine zBa ?_ (by first|omega|(simp<;>omega)) _|apply zBd)|assumption))⟩
theorem rdesc11 (w:World):Calls Tryz.prog 51 #[.int .i64 11] w fun e w'=>∃ s d,e=.returned (.tuple #[.agg #[.string s,.int .i64 (bnd 11).1,.int .i64 (bnd 11).2,.int .i64 d],.int .i64 0])∧Below w.heap.size w w':=by
 go_enter Tryz.func51,Tryz.ntmps51
 go_wp2
 go_returns
 exact⟨_,_,rfl,(by repeat (first|(with_reducible first|assumption|exact zBr _ _|refine zBs ?_ (by first|omega|(simp<;>omega)) _|refine zBa ?_ (by first|omega|(simp<;>omega)) _|apply zBd)|assumption))⟩
theorem rdescribe_ok (c:Int) (h:okC c) (w:World):Calls Tryz.prog 51 #[.int .i64 c] w fun e w'=>∃ s d,e=.returned (.tuple #[.agg #[.string s,.int .i64 (bnd c).1,.int .i64 (bnd c).2,.int .i64 d],.int .i64 0])∧Below w.heap.size w w':=by
 have hcs:c=1∨c=2∨c=3∨c=4∨c=5∨c=6∨c=7∨c=8∨c=9∨c=10∨c=11:=by unfold okC at h;omega
 rcases hcs with rfl|rfl|rfl|rfl|rfl|rfl|rfl|rfl|rfl|rfl|rfl
 ·exact rdesc1 w
 ·exact rdesc2 w
 ·exact rdesc3 w
 ·exact rdesc4 w
 ·exact rdesc5 w
 ·exact rdesc6 w
 ·exact rdesc7 w
 ·exact rdesc8 w
 ·exact rdesc9 w
 ·exact rdesc10 w
 ·exact rdesc11 w
def AscR (R:Rdg):Prop:=R.Pairwise (fun x y=>x.1 < y.1)
instance (R:Rdg):Decidable (AscR R):=by unfold AscR;infer_instance
theorem ascR_adj {R:Rdg} (h:∀ i (hi:i+1 < R.length),R[i].1 < R[i+1].1):AscR R:=by
 have key:∀ d i (hi:i+(d+1) < R.length),R[i].1 < R[i+(d+1)].1:=by
  intro d
  induction d with
  |zero=>intro i hi;exact h i hi
  |succ d ih=>
   intro i hi
   have h1:=ih i (by omega)
   have h2:=h (i+(d+1)) (by omega)
   have e:i+(d+1)+1=i+(d+1+1):=by omega
   simp only[e] at h2
   omega
 unfold AscR
 rw[List.pairwise_iff_getElem]
 intro i j hi hj hij
 obtain⟨d,rfl⟩:∃ d,j=i+(d+1):=⟨j-i-1,by omega⟩
 exact key d i hj
def valE (R:Rdg):Int:=if R.any (fun x=>checkE x.1 x.2 == 4) then 4 else if R.any (fun x=>checkE x.1 x.2 == 1) then 1 else if AscR R then 0 else 8
theorem valE4 {R:Rdg} (h:R.any (fun x=>checkE x.1 x.2 == 4)=true):valE R=4:=by unfold valE;rw[h];rfl
theorem valE1 {R:Rdg} (h:R.any (fun x=>checkE x.1 x.2 == 4)=false) (h1:R.any (fun x=>checkE x.1 x.2 == 1)=true):valE R=1:=by unfold valE;rw[h,h1];rfl
theorem valE0 {R:Rdg} (h:R.any (fun x=>checkE x.1 x.2 == 4)=false) (h1:R.any (fun x=>checkE x.1 x.2 == 1)=false) (h2:AscR R):valE R=0:=by unfold valE;rw[h,h1,if_pos h2];rfl
theorem valE8 {R:Rdg} (h:R.any (fun x=>checkE x.1 x.2 == 4)=false) (h1:R.any (fun x=>checkE x.1 x.2 == 1)=false) (h2:¬ AscR R):valE R=8:=by unfold valE;rw[h,h1,if_neg h2];rfl
theorem val1_any (bad:Int) (pb:Nat) (p:Option Addr) (R:Rdg) (cap n:Nat) (w:World) (hB:HasBnd w) (hl:R.length=n) (hV:RdgIn w p R) (hn:n≤1000000000) (hc:w.cell? ⟨pb,0,none⟩=some (.slice p n cap)) (hp:pb < w.heap.size) :
  Calls Tryz.prog 77 #[.int .i64 bad,.pointer (some ⟨pb,0,none⟩)] w fun r w'=>r=.returned (.bool (R.any (fun x=>checkE x.1 x.2 == bad)))∧Below w.heap.size w w':=by
 have hne:¬ pb=w.heap.size:=by omega
 have hbA:Below w.heap.size w (w.alloc (.cells #[.int .i64 bad] 32)):=(zBr _ _).alloc (Nat.le_refl _) _
 have HBA:=zN hbA
 have HX:=zN (contains_rdg p R cap n w.heap.size (w.alloc (.cells #[.int .i64 bad] 32)) hl (hV.below hbA) hn 79 (fun x=>checkE x.1 x.2 == bad) (Go.Proofs.enters_of Tryz.func79 (by kernel_rfl) rfl) (fun x hx w' hb=>val11_any x.1 x.2 bad _ w' (hB.below (hbA.trans (hb.mono (by simp)))) (zP hb (by simp[zO,zJ,zQ])) (by have:=hb.size;simp at this;omega)))
 generalize R.any (fun x=>checkE x.1 x.2 == bad)=b at *
 clear hB hV hl hbA
 go_enter Tryz.func77,Tryz.ntmps77
 go_wp2_with fail
 refine HX.out.mono ?_
 rintro r w1 ⟨rfl,hb1⟩
 have HB1:=zN (HBA.out.trans (hb1.mono HBA.out.size))
 clear hb1 HX
 go_wp2
 go_ret
 exact⟨rfl,HB1.out⟩
theorem validate_any (p:Option Addr) (R:Rdg) (cap n:Nat) (w:World) (hB:HasBnd w) (hl:R.length=n) (hV:RdgIn w p R) (hn:n≤1000000000) :
  Calls Tryz.prog 58 #[.slice p n cap] w fun r w'=>r=.returned (.int .i64 (valE R))∧Below w.heap.size w w':=by
 have hbA:Below w.heap.size w (w.alloc (.cells #[.slice p n cap] 42)):=(zBr _ _).alloc (Nat.le_refl _) _
 have HBA:=zN hbA
 have HB:=zN hB
 have HV:=zN hV
 have HL:=zN hl
 have HC:Hid (∀ bad w',Below w.heap.size w w'→w'.cell? ⟨w.heap.size,0,none⟩=some (.slice p n cap)→Calls Tryz.prog 77 #[.int .i64 bad,.pointer (some ⟨w.heap.size,0,none⟩)] w' fun r w''=>r=.returned (.bool (R.any (fun x=>checkE x.1 x.2 == bad)))∧Below w'.heap.size w' w''):=
  zN (fun bad w' hb hc=>val1_any bad _ p R cap n w' (hB.below hb) hl (hV.below hb) hn hc (zM _ _ hc))
 have c0:(w.alloc (.cells #[.slice p n cap] 42)).cell? ⟨w.heap.size,0,none⟩=some (.slice p n cap):=(by simp[zO,zJ,zQ])
 have HC0:=zN c0
 clear hB hV hl hbA c0
 go_enter Tryz.func58,Tryz.ntmps58
 go_wp2_with fail
 refine (HC.out 4 _ HBA.out HC0.out).mono ?_
 rintro r w1 ⟨rfl,hb1⟩
 have HB1:=zN (HBA.out.trans (hb1.mono HBA.out.size))
 have HC1:=zN (zP hb1 HC0.out)
 clear hb1
 cases h4:R.any (fun x=>checkE x.1 x.2 == 4)
 rotate_left
 ·have HF:=zN (valE4 h4)
  clear h4
  go_wp2
  go_ret
  exact⟨by rw[HF.out];rfl,HB1.out⟩
 have H4:=zN h4
 clear h4
 go_wp2_with fail
 refine (HC.out 1 _ HB1.out HC1.out).mono ?_
 rintro r w2 ⟨rfl,hb2⟩
 have HB2:=zN (HB1.out.trans (hb2.mono HB1.out.size))
 have HC2:=zN (zP hb2 HC1.out)
 clear hb2
 cases h1:R.any (fun x=>checkE x.1 x.2 == 1)
 rotate_left
 ·have HF:=zN (valE1 H4.out h1)
  clear h1
  go_wp2
  go_ret
  exact⟨by rw[HF.out];rfl,HB2.out⟩
 have H1:=zN h1
 clear h1
 go_wp2
 go_loopw [4] (fun v4 wr=>∃ k:Nat,1≤k∧(k≤n∨k=1)∧v4=.int .i64 (k:Int)∧Hid (∀ i (hi:i+1 < R.length),i+1 < k→R[i].1 < R[i+1].1)∧Below w.heap.size w wr∧wr.cell? ⟨w.heap.size,0,none⟩=some (.slice p n cap)) (fun v4 _=>n-(intOf v4).toNat)
 case atStart=>exact⟨1,Nat.le_refl _,.inr rfl,rfl,zN (fun i hi h=>by omega),HB2.out,HC2.out⟩
 case round=>
  obtain⟨k,hk1,hkM,rfl,HI,hb,hc⟩:=hrel
  by_cases hk:k < n
  ·have hdk:decide ((k:Int) < (n:Int))=true:=zDt (by omega)
   obtain⟨i,rfl⟩:∃ i,k=i+1:=⟨k-1,by omega⟩
   obtain⟨bb,o,rfl,_,hrp⟩:=(HV.out.below hb).get (by rw[HL.out];omega)
   have hil:i < R.length:=by rw[HL.out];omega
   have hjl:i+1 < R.length:=by rw[HL.out];omega
   have x0:=(hrp i hil).1
   have y0:=(hrp (i+1) hjl).1
   have HXY:Hid (R[i].1 < R[i+1].1↔R[i].1 < R[i+1].1):=zN Iff.rfl
   obtain⟨xe,hxe⟩:∃ xe,xe=R[i].1:=⟨_,rfl⟩
   obtain⟨ye,hye⟩:∃ ye,ye=R[i+1].1:=⟨_,rfl⟩
   rw[←hxe] at x0
   rw[←hye] at y0
   have HE:=zN (And.intro hxe hye)
   have hi0:(0:Int)≤(i:Int):=by omega
   have hi1:(i:Int) < (n:Int):=by omega
   have hj1:((i:Int)+1) < (n:Int):=by omega
   have HBB:=zN hb
   have HCC:=zN hc
   clear hrp hxe hye hb HXY
   by_cases hlt:xe < ye
   ·have hdl:decide (xe≥ye)=false:=zDf (by omega)
    go_wp2_with fail
    refine RX.region RX.fN (fun w'=>w'=_) (by kernel_rfl) (by kernel_rfl) rfl (fun OPS HO QR hQR=>?_)
    repeat (refine zeX (fun R hR=>?_);(first|refine zaX (by first|rfl|(rw[HO.out];rfl)) (by simp only[zA,zB,zC,zD];rfl) ?_|refine zbX (by first|rfl|(rw[HO.out];rfl)) rfl (by first|exact .inl rfl|exact .inr rfl) (by simp only[zE,zF,zG,zH];rfl) (by simp only[zA,zB,zC,zD];rfl) ?_|refine zcX (by first|rfl|(rw[HO.out];rfl)) rfl rfl (by simp only[zE,zF,zG,zH];rfl) (by simp only[zA,zB,zC,zD];rfl) ?_|(refine zdX (by first|rfl|(rw[HO.out];rfl)) rfl rfl rfl ?_;apply zEx;apply zEx;refine⟨fun w' hS K hK=>?_,?_,?_⟩;(focus (subst hS;go_wp2;exact hK _ _ (by simp only[zl,zG,zH];first|exact zf (by omega)|exact zg (by omega)|exact zh (by omega)|exact zi (by omega)|exact zj (by omega)|exact zk (by omega)|exact RX.bneB _|rfl) rfl));(focus (simp only[zA,zB,zC,zD];rfl))));refine hR _ _ ?_;clear hR R)
    refine RX.wpL_nil (hQR _ _ rfl ?_);clear hQR QR HO OPS
    clear hc x0 y0
    go_wp2
    go_roundw
    case rel=>exact⟨i+1+1,by omega,.inl (by omega),by go_num,(zN (fun j hj hjk=>by
     by_cases e:j=i
     ·subst e;rw[←HE.out.1,←HE.out.2];exact hlt
     ·exact HI.out j hj (by omega))),HBB.out.drew,HCC.out⟩
    case measure=>simp[intOf]<;>omega
   ·have hdl:decide (xe≥ye)=true:=zDt (by omega)
    have HF:=zN (valE8 H4.out H1.out (fun ha=>hlt (by
     have:=List.pairwise_iff_getElem.1 ha i (i+1) (by rw[HL.out];omega) (by rw[HL.out];omega) (by omega)
     rw[←HE.out.1,←HE.out.2] at this;exact this)))
    go_wp2_with fail
    refine RX.region RX.fN (fun w'=>w'=_) (by kernel_rfl) (by kernel_rfl) rfl (fun OPS HO QR hQR=>?_)
    repeat (refine zeX (fun R hR=>?_);(first|refine zaX (by first|rfl|(rw[HO.out];rfl)) (by simp only[zA,zB,zC,zD];rfl) ?_|refine zbX (by first|rfl|(rw[HO.out];rfl)) rfl (by first|exact .inl rfl|exact .inr rfl) (by simp only[zE,zF,zG,zH];rfl) (by simp only[zA,zB,zC,zD];rfl) ?_|refine zcX (by first|rfl|(rw[HO.out];rfl)) rfl rfl (by simp only[zE,zF,zG,zH];rfl) (by simp only[zA,zB,zC,zD];rfl) ?_|(refine zdX (by first|rfl|(rw[HO.out];rfl)) rfl rfl rfl ?_;apply zEx;apply zEx;refine⟨fun w' hS K hK=>?_,?_,?_⟩;(focus (subst hS;go_wp2;exact hK _ _ (by simp only[zl,zG,zH];first|exact zf (by omega)|exact zg (by omega)|exact zh (by omega)|exact zi (by omega)|exact zj (by omega)|exact zk (by omega)|exact RX.bneB _|rfl) rfl));(focus (simp only[zA,zB,zC,zD];rfl))));refine hR _ _ ?_;clear hR R)
    refine RX.wpL_nil (hQR _ _ rfl ?_);clear hQR QR HO OPS
    go_wp2
    go_ret
    exact⟨by rw[HF.out];rfl,HBB.out.drew⟩
  ·have hdk:decide ((k:Int) < (n:Int))=false:=zDf (by omega)
   have HF:=zN (valE0 H4.out H1.out (ascR_adj (fun i hi=>HI.out i hi (by have:=HL.out;omega))))
   have HBB:=zN hb
   clear hb
   go_wp2
   go_ret
   exact⟨by rw[HF.out];rfl,HBB.out⟩
theorem rdescribe_no (c:Int) (h:¬ okC c) (w:World):Calls Tryz.prog 51 #[.int .i64 c] w fun e w'=>e=.returned (.tuple #[.agg #[.string ⟨#[]⟩,.int .i64 0,.int .i64 0,.int .i64 0],.int .i64 4])∧Below w.heap.size w w':=by
 by_cases h1:c < 1
 ·clear h
  go_enter Tryz.func51,Tryz.ntmps51
  go_wp2
  go_returns
  exact⟨rfl,(by repeat (first|(with_reducible first|assumption|exact zBr _ _|refine zBs ?_ (by first|omega|(simp<;>omega)) _|refine zBa ?_ (by first|omega|(simp<;>omega)) _|apply zBd)|assumption))⟩
 ·have h2:11 < c:=by unfold okC at h;omega
  have h3:1≤c:=by omega
  clear h h1
  go_enter Tryz.func51,Tryz.ntmps51
  go_wp2
  go_returns
  exact⟨rfl,(by repeat (first|(with_reducible first|assumption|exact zBr _ _|refine zBs ?_ (by first|omega|(simp<;>omega)) _|refine zBa ?_ (by first|omega|(simp<;>omega)) _|apply zBd)|assumption))⟩
def inB (e v:Int):Bool:=decide ((bnd e).1≤v∧v≤(bnd e).2)
theorem rin04_any (e v:Int) (h:okC e) (w:World):Calls Tryz.prog 52 #[.agg #[.int .i64 e,.int .i64 v]] w fun r w'=>r=.returned (.bool (inB e v))∧Below w.heap.size w w':=by
 have hbA:Below w.heap.size w (w.alloc (.cells #[.int .i64 e,.int .i64 v] 55)):=(zBr _ _).alloc (Nat.le_refl _) _
 have HBA:=zN hbA
 have HD:=zN (rdescribe_ok e h (w.alloc (.cells #[.int .i64 e,.int .i64 v] 55)))
 have HE:Hid (inB e v=decide ((bnd e).1≤v∧v≤(bnd e).2)):=zN rfl
 generalize (bnd e).1=lo at *
 generalize (bnd e).2=hi at *
 clear h hbA
 go_enter Tryz.func52,Tryz.ntmps52
 go_wp2_with fail
 refine HD.out.mono ?_
 rintro r w1 ⟨s,d,rfl,hb1⟩
 have c1:w1.cell? ⟨w.heap.size,1,none⟩=some (.int .i64 v):=zP hb1 (by simp[zO,zJ,zQ])
 have hlt:=zM _ _ c1
 have HB1:=zN (HBA.out.trans (hb1.mono HBA.out.size))
 have hsz1:=HB1.out.size
 have hbF:Below w.heap.size w1 (w1.alloc (.cells #[.string s,.int .i64 lo,.int .i64 hi,.int .i64 d] 92)):=(zBr _ _).alloc hsz1 _
 have HBF:=zN (HB1.out.trans hbF)
 have hne:¬ w.heap.size=w1.heap.size:=by simp only at hlt;omega
 clear HD hb1 hbF
 by_cases h1:lo≤v
 ·by_cases h2:v≤hi
  ·have hd2:decide (v≤hi)=true:=zDt h2
   have HF:Hid (inB e v=true):=zN (by rw[HE.out];exact zDt ⟨h1,h2⟩)
   go_wp2
   go_ret
   exact⟨by rw[HF.out];rfl,HBF.out⟩
  ·have HF:Hid (inB e v=false):=zN (by rw[HE.out];exact zDf (fun h=>h2 h.2))
   have h2':hi < v:=by omega
   have hd2:decide (v≤hi)=false:=zDf h2
   clear h2
   go_wp2
   go_ret
   exact⟨by rw[HF.out];rfl,HBF.out⟩
 ·have HF:Hid (inB e v=false):=zN (by rw[HE.out];exact zDf (fun h=>h1 h.1))
  have h1':v < lo:=by omega
  clear h1
  go_wp2
  go_ret
  exact⟨by rw[HF.out];rfl,HBF.out⟩
theorem check4 {e v:Int}:(checkE e v == 4)=!decide (okC e):=by
 unfold checkE
 by_cases h:okC e
 ·rw[if_pos h,zDt h];split<;>rfl
 ·rw[if_neg h,zDf h];rfl
theorem check1 {e v:Int} (h:okC e):(checkE e v == 1)=!inB e v:=by
 unfold checkE inB
 rw[if_pos h]
 by_cases h1:v < (bnd e).1∨(bnd e).2 < v
 ·rw[if_pos h1,zDf (by omega)];rfl
 ·rw[if_neg h1,zDt (by omega)];rfl
theorem rvalidate_any (p:Option Addr) (R:Rdg) (cap n:Nat) (w:World) (hl:R.length=n) (hV:RdgIn w p R) (hn:n≤1000000000) :
  Calls Tryz.prog 20 #[.slice p n cap] w fun r w'=>r=.returned (.int .i64 (valE R))∧Below w.heap.size w w':=by
 have HV:=zN hV
 have HL:=zN hl
 have hB0:=zN (zBr w.heap.size w)
 clear hV hl
 go_enter Tryz.func20,Tryz.ntmps20
 go_wp2
 go_loopw [3] (fun v3 wr=>∃ k:Nat,k≤n∧v3=.int .i64 (k:Int)∧Hid (∀ j (h:j < R.length),j < k→okC R[j].1)∧Below w.heap.size w wr) (fun v3 _=>n-(intOf v3).toNat)
 case atStart=>exact⟨0,by omega,rfl,zN (fun j _ h=>by omega),hB0.out⟩
 case round=>
  obtain⟨k,hkn,rfl,HI,hb⟩:=hrel
  by_cases hk:k < n
  ·have hdk:decide ((k:Int) < (n:Int))=true:=zDt (by omega)
   have hk0:(0:Int)≤(k:Int):=by omega
   have hk1:(k:Int) < (n:Int):=by omega
   have hkl:k < R.length:=by rw[HL.out];exact hk
   obtain⟨bb,o,rfl,_,hrp⟩:=(HV.out.below hb).get (by omega)
   have x0:=(hrp k hkl).1
   obtain⟨e,he⟩:∃ e,e=R[k].1:=⟨_,rfl⟩
   rw[←he] at x0
   have HE:=zN he
   have HB:=zN hb
   clear hrp he hb
   by_cases hok:okC e
   ·have HOK:=zN hok
    go_wp2_with fail
    refine (rdescribe_ok e hok _).mono ?_
    rintro r w1 ⟨s,d,rfl,hb1⟩
    have HB1:=zN (HB.out.trans (hb1.mono HB.out.size))
    have hs1:=HB1.out.size
    clear hb1 x0 hok
    go_wp2
    go_roundw
    case rel=>first|exact⟨k+1,by omega,by go_num,zN (fun j hj hjk=>by
     by_cases e':j=k
     ·subst e';rw[←HE.out];exact HOK.out
     ·exact HI.out j hj (by omega)),HB1.out.alloc hs1 _⟩|(repeat apply zEx;exact⟨⟨k+1,by omega,by go_num,zN (fun j hj hjk=>by
     by_cases e':j=k
     ·subst e';rw[←HE.out];exact HOK.out
     ·exact HI.out j hj (by omega)),HB1.out.alloc hs1 _⟩,rfl⟩)
    case measure=>simp[intOf]<;>omega
   ·have HF:Hid (valE R=4):=zN (valE4 (by
     rw[List.any_eq_true]
     exact⟨R[k],List.getElem_mem _,by rw[check4,←HE.out,zDf hok];rfl⟩))
    go_wp2_with fail
    refine (rdescribe_no e hok _).mono ?_
    rintro r w1 ⟨rfl,hb1⟩
    have HB1:=zN (HB.out.trans (hb1.mono HB.out.size))
    have hs1:=HB1.out.size
    clear hb1 x0 hok
    go_wp2
    go_ret
    exact⟨by rw[HF.out];rfl,HB1.out.alloc hs1 _⟩
  ·have hdk:decide ((k:Int) < (n:Int))=false:=zDf (by omega)
   have HOK:Hid (∀ j (h:j < R.length),okC R[j].1):=zN (fun j hj=>HI.out j hj (by have:=HL.out;omega))
   have H4:Hid (R.any (fun x=>checkE x.1 x.2 == 4)=false):=zN (List.any_eq_false.2 (fun x hx=>by
    obtain⟨j,hj,rfl⟩:=List.getElem_of_mem hx
    rw[check4,zDt (HOK.out j hj)];simp))
   have HB2:=zN hb
   clear hb HI
   go_wp2
   generalize wr=W2 at *
   generalize k=k0 at *
   go_loopw [6] (fun v6 wr=>∃ k:Nat,k≤n∧v6=.int .i64 (k:Int)∧Hid (∀ j (h:j < R.length),j < k→inB R[j].1 R[j].2=true)∧Below w.heap.size w wr) (fun v6 _=>n-(intOf v6).toNat)
   case atStart=>exact⟨0,by omega,rfl,zN (fun j _ h=>by omega),HB2.out⟩
   case round=>
    obtain⟨k,hkn,rfl,HI,hb⟩:=hrel
    by_cases hk:k < n
    ·have hdk:decide ((k:Int) < (n:Int))=true:=zDt (by omega)
     have hk0:(0:Int)≤(k:Int):=by omega
     have hk1:(k:Int) < (n:Int):=by omega
     have hkl:k < R.length:=by rw[HL.out];exact hk
     obtain⟨bb,o,rfl,_,hrp⟩:=(HV.out.below hb).get (by omega)
     obtain⟨x0,x1⟩:=hrp k hkl
     have hok:=HOK.out k hkl
     obtain⟨x,hx⟩:∃ x,x=R[k]:=⟨_,rfl⟩
     rw[←hx] at x0 x1 hok
     have HE:=zN hx
     have HB:=zN hb
     clear hrp hx hb
     go_wp2_with fail
     refine (rin04_any x.1 x.2 hok _).mono ?_
     rintro r w1 ⟨rfl,hb1⟩
     have HB1:=zN (HB.out.trans (hb1.mono HB.out.size))
     clear hb1 x0 x1
     cases hin:inB x.1 x.2
     ·have HF:Hid (valE R=1):=zN (valE1 H4.out (by
       rw[List.any_eq_true]
       exact⟨R[k],List.getElem_mem _,by rw[←HE.out,check1 hok,hin];rfl⟩))
      clear hin
      go_wp2
      go_ret
      exact⟨by rw[HF.out];rfl,HB1.out⟩
     ·have HIN:=zN hin
      clear hin
      go_wp2
      go_roundw
      case rel=>exact⟨k+1,by omega,by go_num,zN (fun j hj hjk=>by
       by_cases e':j=k
       ·subst e';rw[←HE.out];exact HIN.out
       ·exact HI.out j hj (by omega)),HB1.out⟩
      case measure=>simp[intOf]<;>omega
    ·have hdk:decide ((k:Int) < (n:Int))=false:=zDf (by omega)
     have H1:Hid (R.any (fun x=>checkE x.1 x.2 == 1)=false):=zN (List.any_eq_false.2 (fun x hx=>by
      obtain⟨j,hj,rfl⟩:=List.getElem_of_mem hx
      rw[check1 (HOK.out j hj),HI.out j hj (by have:=HL.out;omega)];simp))
     have HB3:=zN hb
     clear hb HI
     go_wp2
     generalize wr=W3 at *
     generalize k=k1 at *
     go_loopw [7] (fun v7 wr=>∃ k:Nat,1≤k∧(k≤n∨k=1)∧v7=.int .i64 (k:Int)∧Hid (∀ i (hi:i+1 < R.length),i+1 < k→R[i].1 < R[i+1].1)∧Below w.heap.size w wr) (fun v7 _=>n-(intOf v7).toNat)
     case atStart=>exact⟨1,Nat.le_refl _,.inr rfl,rfl,zN (fun i hi h=>by omega),HB3.out⟩
     case round=>
      obtain⟨k,hk1,hkM,rfl,HI,hb⟩:=hrel
      by_cases hk:k < n
      ·have hdk:decide ((k:Int) < (n:Int))=true:=zDt (by omega)
       obtain⟨i,rfl⟩:∃ i,k=i+1:=⟨k-1,by omega⟩
       obtain⟨bb,o,rfl,_,hrp⟩:=(HV.out.below hb).get (by rw[HL.out];omega)
       have hil:i < R.length:=by rw[HL.out];omega
       have hjl:i+1 < R.length:=by rw[HL.out];omega
       have x0:=(hrp i hil).1
       have y0:=(hrp (i+1) hjl).1
       obtain⟨xe,hxe⟩:∃ xe,xe=R[i].1:=⟨_,rfl⟩
       obtain⟨ye,hye⟩:∃ ye,ye=R[i+1].1:=⟨_,rfl⟩
       rw[←hxe] at x0
       rw[←hye] at y0
       have HE:=zN (And.intro hxe hye)
       have hi0:(0:Int)≤(i:Int):=by omega
       have hi1:(i:Int) < (n:Int):=by omega
       have hj1:((i:Int)+1) < (n:Int):=by omega
       have HBB:=zN hb
       clear hrp hxe hye hb
       by_cases hlt:xe < ye
       ·have hdl:decide (xe≥ye)=false:=zDf (by omega)
        go_wp2_with fail
        refine RX.region RX.fN (fun w'=>w'=_) (by kernel_rfl) (by kernel_rfl) rfl (fun OPS HO QR hQR=>?_)
        repeat (refine zeX (fun R hR=>?_);(first|refine zaX (by first|rfl|(rw[HO.out];rfl)) (by simp only[zA,zB,zC,zD];rfl) ?_|refine zbX (by first|rfl|(rw[HO.out];rfl)) rfl (by first|exact .inl rfl|exact .inr rfl) (by simp only[zE,zF,zG,zH];rfl) (by simp only[zA,zB,zC,zD];rfl) ?_|refine zcX (by first|rfl|(rw[HO.out];rfl)) rfl rfl (by simp only[zE,zF,zG,zH];rfl) (by simp only[zA,zB,zC,zD];rfl) ?_|(refine zdX (by first|rfl|(rw[HO.out];rfl)) rfl rfl rfl ?_;apply zEx;apply zEx;refine⟨fun w' hS K hK=>?_,?_,?_⟩;(focus (subst hS;go_wp2;exact hK _ _ (by simp only[zl,zG,zH];first|exact zf (by omega)|exact zg (by omega)|exact zh (by omega)|exact zi (by omega)|exact zj (by omega)|exact zk (by omega)|exact RX.bneB _|rfl) rfl));(focus (simp only[zA,zB,zC,zD];rfl))));refine hR _ _ ?_;clear hR R)
        refine RX.wpL_nil (hQR _ _ rfl ?_);clear hQR QR HO OPS
        clear x0 y0
        go_wp2
        go_roundw
        case rel=>exact⟨i+1+1,by omega,.inl (by omega),by go_num,(zN (fun j hj hjk=>by
         by_cases e:j=i
         ·subst e;rw[←HE.out.1,←HE.out.2];exact hlt
         ·exact HI.out j hj (by omega))),HBB.out.drew⟩
        case measure=>simp[intOf]<;>omega
       ·have hdl:decide (xe≥ye)=true:=zDt (by omega)
        have HF:=zN (valE8 H4.out H1.out (fun ha=>hlt (by
         have:=List.pairwise_iff_getElem.1 ha i (i+1) (by rw[HL.out];omega) (by rw[HL.out];omega) (by omega)
         rw[←HE.out.1,←HE.out.2] at this;exact this)))
        go_wp2_with fail
        refine RX.region RX.fN (fun w'=>w'=_) (by kernel_rfl) (by kernel_rfl) rfl (fun OPS HO QR hQR=>?_)
        repeat (refine zeX (fun R hR=>?_);(first|refine zaX (by first|rfl|(rw[HO.out];rfl)) (by simp only[zA,zB,zC,zD];rfl) ?_|refine zbX (by first|rfl|(rw[HO.out];rfl)) rfl (by first|exact .inl rfl|exact .inr rfl) (by simp only[zE,zF,zG,zH];rfl) (by simp only[zA,zB,zC,zD];rfl) ?_|refine zcX (by first|rfl|(rw[HO.out];rfl)) rfl rfl (by simp only[zE,zF,zG,zH];rfl) (by simp only[zA,zB,zC,zD];rfl) ?_|(refine zdX (by first|rfl|(rw[HO.out];rfl)) rfl rfl rfl ?_;apply zEx;apply zEx;refine⟨fun w' hS K hK=>?_,?_,?_⟩;(focus (subst hS;go_wp2;exact hK _ _ (by simp only[zl,zG,zH];first|exact zf (by omega)|exact zg (by omega)|exact zh (by omega)|exact zi (by omega)|exact zj (by omega)|exact zk (by omega)|exact RX.bneB _|rfl) rfl));(focus (simp only[zA,zB,zC,zD];rfl))));refine hR _ _ ?_;clear hR R)
        refine RX.wpL_nil (hQR _ _ rfl ?_);clear hQR QR HO OPS
        go_wp2
        go_ret
        exact⟨by rw[HF.out];rfl,HBB.out.drew⟩
      ·have hdk:decide ((k:Int) < (n:Int))=false:=zDf (by omega)
       have HF:=zN (valE0 H4.out H1.out (ascR_adj (fun i hi=>HI.out i hi (by have:=HL.out;omega))))
       have HBB:=zN hb
       clear hb
       go_wp2
       go_ret
       exact⟨by rw[HF.out];rfl,HBB.out⟩
abbrev BR:=Rep × Rdg
structure BOk (w:World) (x:BR):Prop where
 ex:∃ q cap,x.1.rd=.slice q x.2.length cap∧RdgIn w q x.2
 len:x.2.length≤1000000000
theorem BOk.below {w w':World} {x:BR} (h:BOk w x) (hb:Below w.heap.size w w'):BOk w' x:=by
 obtain⟨q,cap,h1,h2⟩:=h.ex
 exact⟨⟨q,cap,h1,h2.below hb⟩,h.len⟩
structure VecB (w:World) (p:Option Addr) (L:List BR):Prop where
 v:VecR w p (L.map Prod.fst)
 r:∀ x∈L,BOk w x
theorem VecB.below {w w':World} {p:Option Addr} {L:List BR} (h:VecB w p L) (hb:Below w.heap.size w w'):VecB w' p L:=⟨h.v.below hb,fun x hx=>(h.r x hx).below hb⟩
theorem VecB.cell {w:World} {p:Option Addr} {L:List BR} (h:VecB w p L) (h0:0 < L.length):∃ b o,p=some ⟨b,o,none⟩∧b < w.heap.size∧∀ k (h:k < L.length),RptAt w b (o+k*8) L[k].1:=by
 obtain⟨b,o,h1,h2,h3⟩:=h.v.cell (by rw[List.length_map];exact h0)
 refine⟨b,o,h1,h2,fun k hk=>?_⟩
 have:=h3 k (by rw[List.length_map];exact hk)
 rwa[List.getElem_map] at this
def vaB (r:Rep):Bool:=validB r.f r.a r.b r.c
def exE (L:List BR):Int:=match L.find? (fun x=>valE x.2 != 0) with
 |some x=>valE x.2
 |none=>if L.any (fun x=>!vaB x.1) then 1 else 0
theorem exE_first {L:List BR} {k:Nat} (hk:k < L.length) (h1:∀ j (h:j < L.length),j < k→valE L[j].2=0) (h2:valE L[k].2≠0):exE L=valE L[k].2:=by
 unfold exE
 have e:L.find? (fun x=>valE x.2 != 0)=some L[k]:=by
  rw[List.find?_eq_some_iff_getElem]
  exact⟨by rw[bne_iff_ne];exact h2,k,hk,rfl,fun j hj=>by rw[h1 j (by omega) hj];rfl⟩
 rw[e]
theorem exE_none {L:List BR} (h1:∀ j (h:j < L.length),valE L[j].2=0):exE L=if L.any (fun x=>!vaB x.1) then 1 else 0:=by
 unfold exE
 have e:L.find? (fun x=>valE x.2 != 0)=none:=by
  rw[List.find?_eq_none]
  intro x hx
  obtain⟨j,hj,rfl⟩:=List.getElem_of_mem hx
  rw[h1 j hj];simp
 rw[e]
theorem exam1_any (r:Rep) (hr:RdOk r) (w:World):Calls Tryz.prog 60 #[rpv r] w fun e w'=>e=.returned (.bool (!vaB r))∧Below w.heap.size w w':=by
 obtain⟨k,s,t,f,a,b,c,rd⟩:=r
 obtain⟨p,n,cp,hrd⟩:=hr
 dsimp only at hrd
 subst hrd
 have hb0:Below w.heap.size w (w.alloc (.cells (rpc ⟨k,s,t,f,a,b,c,.slice p n cp⟩).toArray 44)):=(zBr _ _).alloc (Nat.le_refl _) _
 unfold rpc at hb0
 dsimp only at hb0
 unfold rpv vaB
 dsimp only
 have HB0:=zN hb0
 obtain⟨vb,hvb⟩:∃ vb,vb=validB f a b c:=⟨_,rfl⟩
 have HVB:=zN hvb
 rw[←hvb]
 clear hb0 hvb
 go_enter Tryz.func60,Tryz.ntmps60
 go_wp2_with fail
 refine (valid_any f a b c _).mono ?_
 rintro e w1 ⟨rfl,hb1⟩
 rw[←HVB.out]
 have HB1:=zN (HB0.out.trans (hb1.mono HB0.out.size))
 clear hb1
 go_wp2
 go_ret
 exact⟨rfl,HB1.out⟩
theorem examine_any (p:Option Addr) (cap n:Nat) (L:List BR) (hl:L.length=n) (hn:n≤1000000) (w:World) (hB:HasBnd w) (hV:VecB w p L) :
  Calls Tryz.prog 39 #[.slice p n cap] w fun e w'=>e=.returned (.int .i64 (exE L))∧Below w.heap.size w w':=by
 have HB:=zN hB
 have HV:=zN hV
 have HL:=zN hl
 have hB0:=zN (zBr w.heap.size w)
 clear hB hV hl
 go_enter Tryz.func39,Tryz.ntmps39
 go_wp2
 go_loopw [8] (fun v8 wr=>∃ k:Nat,k≤n∧v8=.int .i64 (k:Int)∧Hid (∀ j (h:j < L.length),j < k→valE L[j].2=0)∧Below w.heap.size w wr) (fun v8 _=>n-(intOf v8).toNat)
 case atStart=>exact⟨0,by omega,rfl,zN (fun j _ h=>by omega),hB0.out⟩
 case round=>
  obtain⟨k,hkn,rfl,HI,hb⟩:=hrel
  by_cases hk:k < n
  ·have hdk:decide ((k:Int) < (n:Int))=true:=zDt (by omega)
   have hk0:(0:Int)≤(k:Int):=by omega
   have hk1:(k:Int) < (n:Int):=by omega
   have hkl:k < L.length:=by rw[HL.out];exact hk
   have hVw:=HV.out.below hb
   obtain⟨bb,o,rfl,hbbl,hrp⟩:=hVw.cell (by omega)
   have hri:=hrp k hkl
   have hok:=hVw.r _ (List.getElem_mem hkl)
   obtain⟨x,hx⟩:∃ x,x=L[k]:=⟨_,rfl⟩
   rw[←hx] at hri hok
   have HX:=zN hx
   obtain⟨q,cq,hrd,hR⟩:=hok.ex
   obtain⟨nr,hnr⟩:∃ nr,nr=x.2.length:=⟨_,rfl⟩
   have hnr9:nr≤1000000000:=by rw[hnr];exact hok.len
   obtain⟨c0,c1,c2,c3,c4,c5,c6,c7,_⟩:=hri
   rw[hrd,←hnr] at c7
   have hbA:Below wr.heap.size wr (wr.alloc (.cells #[.int .i64 x.1.kind,.string x.1.name,.int .i64 x.1.time,.int .i64 x.1.f,.int .i64 x.1.a,.int .i64 x.1.b,.int .i64 x.1.c,.slice q nr cq] 44)):=(zBr _ _).alloc (Nat.le_refl _) _
   have HBA:=zN (hb.trans (hbA.mono hb.size))
   have HC:=zN (validate_any q x.2 cq nr _ (HB.out.below HBA.out) hnr.symm (hR.below hbA) hnr9)
   obtain⟨ve,hve⟩:∃ ve,ve=valE x.2:=⟨_,rfl⟩
   have HVE:=zN hve
   rw[←hve] at HC
   clear hrp hx hb hVw hok hrd hR hnr hbA hve
   go_wp2_with fail
   refine HC.out.mono ?_
   rintro e w1 ⟨rfl,hb1⟩
   have HB1:=zN (HBA.out.trans (hb1.mono HBA.out.size))
   clear hb1 HC c0 c1 c2 c3 c4 c5 c6 c7
   by_cases h0:ve=0
   ·have hH:Hid (valE x.2=0):=zN (by rw[←HVE.out];exact h0)
    subst h0
    have HI2:Hid (∀ j (h:j < L.length),j < k+1→valE L[j].2=0):=zN (fun j hj hjk=>by
     by_cases e:j=k
     ·subst e;rw[←HX.out];exact hH.out
     ·exact HI.out j hj (by omega))
    go_wp2
    go_roundw
    case rel=>first|exact⟨k+1,by omega,by go_num,HI2,HB1.out⟩|((repeat apply zEx);refine⟨⟨k+1,by omega,?_,HI2,HB1.out⟩,rfl⟩;first|rfl|go_num)
    case measure=>simp[intOf]<;>omega
   ·have hne:(ve != 0)=true:=by rw[bne_iff_ne];exact h0
    have HF:Hid (exE L=ve):=zN (by rw[HVE.out,HX.out];exact exE_first hkl HI.out (by rw[←HX.out,←HVE.out];exact h0))
    go_wp2
    go_ret
    exact⟨by rw[HF.out];rfl,HB1.out⟩
  ·have hdk:decide ((k:Int) < (n:Int))=false:=zDf (by omega)
   have HF:=zN (exE_none (L:=L) (fun j hj=>HI.out j hj (by have:=HL.out;omega)))
   have HB2:=zN hb
   have HC:=zN (contains_rep p (L.map Prod.fst) cap n wr (by rw[List.length_map];exact HL.out) (HV.out.below hb).v (by omega) 60 (fun r=>!vaB r) (Go.Proofs.enters_of Tryz.func60 (by kernel_rfl) rfl) (fun r hr w' _=>exam1_any r (by
    obtain⟨x,hx,rfl⟩:=List.mem_map.1 hr
    obtain⟨q,cq,h1,_⟩:=(HV.out.r x hx).ex
    exact⟨_,_,_,h1⟩) w'))
   rw[List.any_map] at HC
   have e1:((fun r=>!vaB r) ∘ Prod.fst:BR→Bool)=fun x=>!vaB x.1:=rfl
   rw[e1] at HC
   clear hb HI e1
   go_wp2_with fail
   refine HC.out.mono ?_
   rintro e w1 ⟨rfl,hb1⟩
   have HB1:=zN (HB2.out.trans (hb1.mono HB2.out.size))
   clear hb1 HC
   cases ha:L.any (fun x=>!vaB x.1)
   ·have HG:Hid (exE L=0):=zN (by rw[HF.out,ha];rfl)
    clear ha
    go_wp2
    go_ret
    exact⟨by rw[HG.out];rfl,HB1.out⟩
   ·have HG:Hid (exE L=1):=zN (by rw[HF.out,ha];rfl)
    clear ha
    go_wp2
    go_ret
    exact⟨by rw[HG.out];rfl,HB1.out⟩
theorem rpossible_any (p:Option Addr) (cap n:Nat) (L:List BR) (hl:L.length=n) (hn:n≤1000000) (w:World) (hV:VecB w p L) :
  Calls Tryz.prog 54 #[.slice p n cap] w fun e w'=>e=.returned (.int .i64 (exE L))∧Below w.heap.size w w':=by
 have HV:=zN hV
 have HL:=zN hl
 have hB0:=zN (zBr w.heap.size w)
 clear hV hl
 go_enter Tryz.func54,Tryz.ntmps54
 go_wp2
 go_loopw [10] (fun v10 wr=>∃ k:Nat,k≤n∧v10=.int .i64 (k:Int)∧Hid (∀ j (h:j < L.length),j < k→valE L[j].2=0)∧Below w.heap.size w wr) (fun v10 _=>n-(intOf v10).toNat)
 case atStart=>exact⟨0,by omega,rfl,zN (fun j _ h=>by omega),hB0.out⟩
 case round=>
  obtain⟨k,hkn,rfl,HI,hb⟩:=hrel
  by_cases hk:k < n
  ·have hdk:decide ((k:Int) < (n:Int))=true:=zDt (by omega)
   have hk0:(0:Int)≤(k:Int):=by omega
   have hk1:(k:Int) < (n:Int):=by omega
   have hkl:k < L.length:=by rw[HL.out];exact hk
   have hVw:=HV.out.below hb
   obtain⟨bb,o,rfl,hbbl,hrp⟩:=hVw.cell (by omega)
   have hri:=hrp k hkl
   have hok:=hVw.r _ (List.getElem_mem hkl)
   obtain⟨x,hx⟩:∃ x,x=L[k]:=⟨_,rfl⟩
   rw[←hx] at hri hok
   have HX:=zN hx
   obtain⟨q,cq,hrd,hR⟩:=hok.ex
   obtain⟨nr,hnr⟩:∃ nr,nr=x.2.length:=⟨_,rfl⟩
   have hnr9:nr≤1000000000:=by rw[hnr];exact hok.len
   obtain⟨c0,c1,c2,c3,c4,c5,c6,c7,_⟩:=hri
   rw[hrd,←hnr] at c7
   have hbA:Below wr.heap.size wr (wr.alloc (.cells #[.int .i64 x.1.kind,.string x.1.name,.int .i64 x.1.time,.int .i64 x.1.f,.int .i64 x.1.a,.int .i64 x.1.b,.int .i64 x.1.c,.slice q nr cq] 44)):=(zBr _ _).alloc (Nat.le_refl _) _
   have HBA:=zN (hb.trans (hbA.mono hb.size))
   have HC:=zN (rvalidate_any q x.2 cq nr _ hnr.symm (hR.below hbA) hnr9)
   obtain⟨ve,hve⟩:∃ ve,ve=valE x.2:=⟨_,rfl⟩
   have HVE:=zN hve
   rw[←hve] at HC
   clear hrp hx hb hVw hok hrd hR hnr hbA hve
   go_wp2_with fail
   refine HC.out.mono ?_
   rintro e w1 ⟨rfl,hb1⟩
   have HB1:=zN (HBA.out.trans (hb1.mono HBA.out.size))
   clear hb1 HC c0 c1 c2 c3 c4 c5 c6 c7
   by_cases h0:ve=0
   ·have hH:Hid (valE x.2=0):=zN (by rw[←HVE.out];exact h0)
    subst h0
    have HI2:Hid (∀ j (h:j < L.length),j < k+1→valE L[j].2=0):=zN (fun j hj hjk=>by
     by_cases e:j=k
     ·subst e;rw[←HX.out];exact hH.out
     ·exact HI.out j hj (by omega))
    go_wp2
    go_roundw
    case rel=>first|exact⟨k+1,by omega,by go_num,HI2,HB1.out⟩|((repeat apply zEx);refine⟨⟨k+1,by omega,?_,HI2,HB1.out⟩,rfl⟩;first|rfl|go_num)
    case measure=>simp[intOf]<;>omega
   ·have hne:(ve != 0)=true:=by rw[bne_iff_ne];exact h0
    have HF:Hid (exE L=ve):=zN (by rw[HVE.out,HX.out];exact exE_first hkl HI.out (by rw[←HX.out,←HVE.out];exact h0))
    go_wp2
    go_ret
    exact⟨by rw[HF.out];rfl,HB1.out⟩
  ·have hdk:decide ((k:Int) < (n:Int))=false:=zDf (by omega)
   have HF:=zN (exE_none (L:=L) (fun j hj=>HI.out j hj (by have:=HL.out;omega)))
   have HB2:=zN hb
   clear hb HI
   go_wp2
   generalize wr=W2 at *
   generalize k=k0 at *
   go_loopw [23] (fun v23 wr=>∃ k:Nat,k≤n∧v23=.int .i64 (k:Int)∧Hid (∀ j (h:j < L.length),j < k→vaB L[j].1=true)∧Below w.heap.size w wr) (fun v23 _=>n-(intOf v23).toNat)
   case atStart=>exact⟨0,by omega,rfl,zN (fun j _ h=>by omega),HB2.out⟩
   case round=>
    obtain⟨k,hkn,rfl,HI,hb⟩:=hrel
    by_cases hk:k < n
    ·have hdk:decide ((k:Int) < (n:Int))=true:=zDt (by omega)
     have hk0:(0:Int)≤(k:Int):=by omega
     have hk1:(k:Int) < (n:Int):=by omega
     have hkl:k < L.length:=by rw[HL.out];exact hk
     obtain⟨bb,o,rfl,hbbl,hrp⟩:=(HV.out.below hb).cell (by omega)
     have hri:=hrp k hkl
     obtain⟨r,hr⟩:∃ r,r=L[k].1:=⟨_,rfl⟩
     rw[←hr] at hri
     have HX:=zN hr
     obtain⟨q,nr,cq,hrd⟩:=hri.rd
     obtain⟨c0,c1,c2,c3,c4,c5,c6,c7,_⟩:=hri
     rw[hrd] at c7
     have hbA:Below wr.heap.size wr (wr.alloc (.cells #[.int .i64 r.kind,.string r.name,.int .i64 r.time,.int .i64 r.f,.int .i64 r.a,.int .i64 r.b,.int .i64 r.c,.slice q nr cq] 44)):=(zBr _ _).alloc (Nat.le_refl _) _
     have HBA:=zN (hb.trans (hbA.mono hb.size))
     have HVB:Hid (validB r.f r.a r.b r.c=vaB r):=zN rfl
     clear hrp hr hb hrd hbA
     go_wp2_with fail
     refine (rvalid_any r.f r.a r.b r.c _).mono ?_
     rintro e w1 ⟨rfl,hb1⟩
     rw[HVB.out]
     have HB1:=zN (HBA.out.trans (hb1.mono HBA.out.size))
     clear hb1 c0 c1 c2 c3 c4 c5 c6 c7
     cases hv:vaB r
     ·have HG:Hid (exE L=1):=zN (by
       have ha:L.any (fun x=>!vaB x.1)=true:=List.any_eq_true.2 ⟨L[k],List.getElem_mem _,by rw[←HX.out,hv];rfl⟩
       rw[HF.out,ha];rfl)
      clear hv
      go_wp2
      go_ret
      exact⟨by rw[HG.out];rfl,HB1.out⟩
     ·have HI2:Hid (∀ j (h:j < L.length),j < k+1→vaB L[j].1=true):=zN (fun j hj hjk=>by
       by_cases e:j=k
       ·subst e;rw[←HX.out];exact hv
       ·exact HI.out j hj (by omega))
      clear hv
      go_wp2
      go_roundw
      case rel=>first|exact⟨k+1,by omega,by go_num,HI2,HB1.out⟩|((repeat apply zEx);refine⟨⟨k+1,by omega,?_,HI2,HB1.out⟩,rfl⟩;first|rfl|go_num)
      case measure=>simp[intOf]<;>omega
    ·have hdk:decide ((k:Int) < (n:Int))=false:=zDf (by omega)
     have HG:Hid (exE L=0):=zN (by
      have ha:L.any (fun x=>!vaB x.1)=false:=List.any_eq_false.2 (fun x hx=>by
       obtain⟨j,hj,rfl⟩:=List.getElem_of_mem hx
       rw[HI.out j hj (by have:=HL.out;omega)];simp)
      rw[HF.out,ha];rfl)
     have HB3:=zN hb
     clear hb
     go_wp2
     go_ret
     exact⟨by rw[HG.out];rfl,HB3.out⟩
end Go.Proofs.YtednaajanciabaaGreatDoor
