import Derived.Test.YtednaajanciabaaGreatDoorProg
import Derived.Test.YtednaajanciabaaGreatDoorKRegion
import Derived.Test.YtednaajanciabaaGreatDoorGrid
import Derived.WalkKit
import Derived.WalkLawsBesides
import Derived.WalkSpells
import Derived.Lib.Hide
set_option maxRecDepth 100000
set_option maxHeartbeats 8000000
set_option linter.unusedSimpArgs false
set_option linter.unusedVariables false
namespace Go.Proofs.YtednaajanciabaaGreatDoor
open Go.RowKit Go.Grid
def pv (p:Pl):Value:=.agg #[.int .i64 p.f,.int .i64 p.a,.int .i64 p.b,.int .i64 p.c]
def ValidI (f a b c:Int):Prop:=0≤f∧f < 20∧0≤a∧0≤b∧0≤c∧a+b+c=840
instance (f a b c:Int):Decidable (ValidI f a b c):=by unfold ValidI;infer_instance
theorem ValidI.pl {f a b c:Int} (h:ValidI f a b c):∃ p:Pl,p.Ok∧f=p.f∧a=p.a∧b=p.b∧c=p.c:=by
 obtain⟨h1,h2,h3,h4,h5,h6⟩:=h
 exact⟨⟨f.toNat,a.toNat,b.toNat,c.toNat⟩,⟨by show f.toNat < 20;omega,by show a.toNat+b.toNat+c.toNat=840;omega⟩,by show f=(f.toNat:Int);omega,by show a=(a.toNat:Int);omega,by show b=(b.toNat:Int);omega,by show c=(c.toNat:Int);omega⟩
theorem Ok.valid {p:Pl} (h:p.Ok):ValidI p.f p.a p.b p.c:=by
 have:=h.f;have:=h.s
 exact⟨by omega,by omega,by omega,by omega,by omega,by omega⟩
theorem face_any (n:Int) (w:World):Calls Tryz.prog 82 #[.int .i64 n] w fun e w'=>e=.returned (.bool (decide (0≤n∧n < 20)))∧w=w':=by
 by_cases h:0≤n
 ·by_cases h2:n < 20
  ·go_enter Tryz.func82,Tryz.ntmps82
   go_wp2
   go_ret
   refine⟨?_,rfl⟩
   simp[h,h2]
  ·go_enter Tryz.func82,Tryz.ntmps82
   go_wp2
   go_ret
   refine⟨?_,rfl⟩
   rw[zDf (by omega)];rfl
 ·go_enter Tryz.func82,Tryz.ntmps82
  go_wp2
  go_ret
  refine⟨?_,rfl⟩
  rw[zDf (by omega)];rfl
def validB (f a b c:Int):Bool:=decide (ValidI f a b c)
theorem valid_any (f a b c:Int) (w:World):Calls Tryz.prog 61 #[.agg #[.int .i64 f,.int .i64 a,.int .i64 b,.int .i64 c]] w fun e w'=>e=.returned (.bool (validB f a b c))∧Below w.heap.size w w':=by
 have hb0:Below w.heap.size w (w.alloc (.cells #[.int .i64 f,.int .i64 a,.int .i64 b,.int .i64 c] 41)):=(zBr _ _).alloc (Nat.le_refl _) _
 have no:¬ ValidI f a b c→Ending.returned (.bool false)=Ending.returned (.bool (validB f a b c)):=fun h=>by unfold validB;rw[zDf h]
 have yes:ValidI f a b c→Ending.returned (.bool true)=Ending.returned (.bool (validB f a b c)):=fun h=>by unfold validB;rw[zDt h]
 have i0:∀ w,(Instr.index 132 (.agg #[.int .i64 a,.int .i64 b,.int .i64 c]) (.int .i64 0)).run Tryz.prog w=.ok (.int .i64 a) w:=fun _=>by kernel_rfl
 have i1:∀ w,(Instr.index 132 (.agg #[.int .i64 a,.int .i64 b,.int .i64 c]) (.int .i64 1)).run Tryz.prog w=.ok (.int .i64 b) w:=fun _=>by kernel_rfl
 have i2:∀ w,(Instr.index 132 (.agg #[.int .i64 a,.int .i64 b,.int .i64 c]) (.int .i64 2)).run Tryz.prog w=.ok (.int .i64 c) w:=fun _=>by kernel_rfl
 go_enter Tryz.func61,Tryz.ntmps61
 go_wp2
 go_loop [4,12] (fun _ i=>∃ k:Nat,k≤3∧i=.int .i64 (k:Int)∧(1≤k→0≤a∧a≤840)∧(2≤k→0≤b∧b≤840)∧(3≤k→0≤c∧c≤840)) (fun _ i=>3-(intOf i).toNat)
 case atStart=>exact⟨0,by omega,rfl,by omega,by omega,by omega⟩
 case round=>
  obtain⟨k,hk,rfl,ha,hb,hc⟩:=hrel
  rcases (show k=0∨k=1∨k=2∨k=3 by omega) with rfl|rfl|rfl|rfl
  ·by_cases h1:a < 0
   ·have e:=zN (no (by unfold ValidI;omega))
    clear no yes
    go_wp2
    go_ret
    exact⟨e.out,hb0⟩
   ·by_cases h2:a > 840
    ·have e:=zN (no (by unfold ValidI;omega))
     clear no yes
     go_wp2
     go_ret
     exact⟨e.out,hb0⟩
    ·go_wp2
     go_round
     case rel=>exact⟨1,by omega,rfl,by omega,by omega,by omega⟩
     case measure=>simp[intOf]
  ·have ha':=ha (by omega)
   by_cases h1:b < 0
   ·have e:=zN (no (by unfold ValidI;omega))
    clear no yes
    go_wp2
    go_ret
    exact⟨e.out,hb0⟩
   ·by_cases h2:b > 840
    ·have e:=zN (no (by unfold ValidI;omega))
     clear no yes
     go_wp2
     go_ret
     exact⟨e.out,hb0⟩
    ·go_wp2
     go_round
     case rel=>exact⟨2,by omega,rfl,by omega,by omega,by omega⟩
     case measure=>simp[intOf]
  ·have ha':=ha (by omega)
   have hb':=hb (by omega)
   by_cases h1:c < 0
   ·have e:=zN (no (by unfold ValidI;omega))
    clear no yes
    go_wp2
    go_ret
    exact⟨e.out,hb0⟩
   ·by_cases h2:c > 840
    ·have e:=zN (no (by unfold ValidI;omega))
     clear no yes
     go_wp2
     go_ret
     exact⟨e.out,hb0⟩
    ·go_wp2
     go_round
     case rel=>exact⟨3,by omega,rfl,by omega,by omega,by omega⟩
     case measure=>simp[intOf]
  ·have ha':=ha (by omega)
   have hb':=hb (by omega)
   have hc':=hc (by omega)
   clear ha hb hc
   by_cases hf:0≤f∧f < 20
   ·go_wp2_with fail
    refine (face_any f _).mono ?_
    rintro e w1 ⟨rfl,rfl⟩
    rw[zDt hf]
    by_cases hs:a+b+c=840
    ·have e:=zN (yes (by unfold ValidI;omega))
     clear no yes
     have hs':(a+b+c == 840)=true:=by rw[beq_iff_eq];exact hs
     go_wp2
     go_ret
     exact⟨e.out,hb0⟩
    ·have e:=zN (no (by unfold ValidI;omega))
     clear no yes
     have hs':(a+b+c == 840)=false:=by rw[beq_eq_false_iff_ne];exact hs
     go_wp2
     go_ret
     exact⟨e.out,hb0⟩
   ·have e:=zN (no (by unfold ValidI;omega))
    clear no yes
    go_wp2_with fail
    refine (face_any f _).mono ?_
    rintro e w1 ⟨rfl,rfl⟩
    rw[zDf hf]
    go_wp2
    go_ret
    exact⟨e.out,hb0⟩
def HasTab (w:World):Prop:=∀ f,f < 20→w.cell? ⟨1,f*3,none⟩=some (.int .i64 (tab f).1)∧w.cell? ⟨1,f*3+1,none⟩=some (.int .i64 (tab f).2.1)∧w.cell? ⟨1,f*3+2,none⟩=some (.int .i64 (tab f).2.2)
theorem HasTab.lt {w:World} (h:HasTab w):1 < w.heap.size:=zM w _ (h 0 (by omega)).1
theorem HasTab.kept {w w':World} (h:HasTab w) (hb:w'.heap[1]?=w.heap[1]?):HasTab w':=fun f hf=>by
 obtain⟨h1,h2,h3⟩:=h f hf
 exact⟨(World.cell?_of_block hb).trans h1,(World.cell?_of_block hb).trans h2,(World.cell?_of_block hb).trans h3⟩
theorem HasTab.below {w w':World} (h:HasTab w) (hb:Below w.heap.size w w'):HasTab w':=h.kept (hb.block _ h.lt)
def wts (p:Pl):Value:=.agg #[.int .i64 (wt p 0),.int .i64 (wt p 1),.int .i64 (wt p 2),.int .i64 (wt p 3),.int .i64 (wt p 4),.int .i64 (wt p 5),.int .i64 (wt p 6),.int .i64 (wt p 7),.int .i64 (wt p 8),.int .i64 (wt p 9),.int .i64 (wt p 10),.int .i64 (wt p 11)]
theorem absW {F G:World→Prop} {w:World} (h:F w) (k:∀ w',F w'→G w'):G w:=k w h
def zeros12:List Value:=[.int .i64 0,.int .i64 0,.int .i64 0,.int .i64 0,.int .i64 0,.int .i64 0,.int .i64 0,.int .i64 0,.int .i64 0,.int .i64 0,.int .i64 0,.int .i64 0]
theorem arr12 (x0 x1 x2 a b c:Nat) (h01:x0≠x1) (h02:x0≠x2) (h12:x1≠x2) (j:Nat) (hj:j < 12) :
  (((zeros12.set x0 (.int .i64 a)).set x1 (.int .i64 b)).set x2 (.int .i64 c)).toArray[j]?=some (.int .i64 ((if j=x0 then a else if j=x1 then b else if j=x2 then c else 0:Nat):Int)):=by
 have hz:zeros12[j]?=some (.int .i64 0):=by
  have:j=0∨j=1∨j=2∨j=3∨j=4∨j=5∨j=6∨j=7∨j=8∨j=9∨j=10∨j=11:=by omega
  rcases this with rfl|rfl|rfl|rfl|rfl|rfl|rfl|rfl|rfl|rfl|rfl|rfl<;>rfl
 have hs:zeros12.length=12:=rfl
 rw[List.getElem?_toArray]
 by_cases h2:j=x2
 ·subst h2
  rw[List.getElem?_set_self (by simp[hs];omega),if_neg (Ne.symm h02),if_neg (Ne.symm h12),if_pos rfl]
 ·rw[List.getElem?_set_ne (Ne.symm h2)]
  by_cases h1:j=x1
  ·subst h1
   rw[List.getElem?_set_self (by simp[hs];omega),if_neg (Ne.symm h01),if_pos rfl]
  ·rw[List.getElem?_set_ne (Ne.symm h1)]
   by_cases h0:j=x0
   ·subst h0
    rw[List.getElem?_set_self (by simp[hs];omega),if_pos rfl]
   ·rw[List.getElem?_set_ne (Ne.symm h0),hz,if_neg h0,if_neg h1,if_neg h2];rfl
theorem list12 (x0 x1 x2 a b c:Nat) (h01:x0≠x1) (h02:x0≠x2) (h12:x1≠x2) (p:Pl) (hp:∀ j,wt p j=if j=x0 then a else if j=x1 then b else if j=x2 then c else 0) :
  (([Value.int IntKind.i64 0,.int .i64 0,.int .i64 0,.int .i64 0,.int .i64 0,.int .i64 0,.int .i64 0,.int .i64 0,.int .i64 0,.int .i64 0,.int .i64 0,.int .i64 0].set x0 (.int .i64 a)).set x1 (.int .i64 b)).set x2 (.int .i64 c) =
  [Value.int .i64 (wt p 0),.int .i64 (wt p 1),.int .i64 (wt p 2),.int .i64 (wt p 3),.int .i64 (wt p 4),.int .i64 (wt p 5),.int .i64 (wt p 6),.int .i64 (wt p 7),.int .i64 (wt p 8),.int .i64 (wt p 9),.int .i64 (wt p 10),.int .i64 (wt p 11)]:=by
 refine List.ext_getElem? fun j=>?_
 by_cases hj:j < 12
 ·have:=arr12 x0 x1 x2 a b c h01 h02 h12 j hj
  rw[List.getElem?_toArray] at this
  refine Eq.trans this ?_
  rw[←hp]
  have:j=0∨j=1∨j=2∨j=3∨j=4∨j=5∨j=6∨j=7∨j=8∨j=9∨j=10∨j=11:=by omega
  rcases this with rfl|rfl|rfl|rfl|rfl|rfl|rfl|rfl|rfl|rfl|rfl|rfl<;>rfl
 ·rw[List.getElem?_eq_none (by simp;omega),List.getElem?_eq_none (by simp;omega)]
theorem of_any (p:Pl) (hf:p.f < 20) (w:World) (hT:HasTab w):Calls Tryz.prog 132 #[pv p] w fun e w'=>e=.returned (wts p)∧Below w.heap.size w w':=by
 obtain⟨k0,k1,k2⟩:=hT p.f hf
 have hlt:=hT.lt
 have hne0:¬ 1=w.heap.size:=by omega
 have hne1:¬ 1=w.heap.size+1:=by omega
 have hne2:¬ 1=w.heap.size+2:=by omega
 have hne3:¬ 1=w.heap.size+3:=by omega
 have hne4:¬ 1=w.heap.size+4:=by omega
 have hnz0:¬ w.heap.size=0:=by omega
 have hpz0:0 < w.heap.size:=by omega
 have hpz1:1≤w.heap.size:=by omega
 have hpz2:1≤w.heap.size:=by omega
 have hnz1:¬ w.heap.size=1:=by omega
 obtain⟨l0,l1,l2⟩:=tab_lt p.f
 obtain⟨n0,n1,n2⟩:=tab_ne p.f
 have HW:Hid (∀ j,wt p j=if j=(tab p.f).1 then p.a else if j=(tab p.f).2.1 then p.b else if j=(tab p.f).2.2 then p.c else 0):=zN fun j=>rfl
 have HV:Hid (wts p=wts p):=zN rfl
 obtain⟨f,a,b,c⟩:=p
 dsimp only at hf k0 k1 k2 l0 l1 l2 n0 n1 n2 HW
 generalize (tab f).1=x0 at *
 generalize (tab f).2.1=x1 at *
 generalize (tab f).2.2=x2 at *
 simp only[pv]
 go_enter Tryz.func132,Tryz.ntmps132
 go_wp2
 refine RX.region RX.fL (fun w'=>w'.cell? ⟨w.heap.size+3,0,none⟩=some (.int .i64 x0)∧w'.cell? ⟨w.heap.size+3,1,none⟩=some (.int .i64 x1)∧w'.cell? ⟨w.heap.size+3,2,none⟩=some (.int .i64 x2)∧w'.cell? ⟨w.heap.size,1,none⟩=some (.int .i64 a)∧w'.cell? ⟨w.heap.size,2,none⟩=some (.int .i64 b)∧w'.cell? ⟨w.heap.size,3,none⟩=some (.int .i64 c)) (by kernel_rfl) (by kernel_rfl) ((by simp[zO,zJ,zQ])) (fun OPS HO QR hQR=>?_)
 repeat (refine zeX (fun R hR=>?_);(first|refine zaX (by first|rfl|(rw[HO.out];rfl)) (by simp only[zA,zB,zC,zD];rfl) ?_|refine zbX (by first|rfl|(rw[HO.out];rfl)) rfl (by first|exact .inl rfl|exact .inr rfl) (by simp only[zE,zF,zG,zH];rfl) (by simp only[zA,zB,zC,zD];rfl) ?_|refine zcX (by first|rfl|(rw[HO.out];rfl)) rfl rfl (by simp only[zE,zF,zG,zH];rfl) (by simp only[zA,zB,zC,zD];rfl) ?_|(refine zdX (by first|rfl|(rw[HO.out];rfl)) rfl rfl rfl ?_;apply zEx;apply zEx;refine⟨fun w' hS K hK=>?_,?_,?_⟩;(focus (obtain⟨hS1,hS2,hS3,hS4,hS5,hS6⟩:=hS;go_wp2;exact hK _ _ (by simp only[zl,zG,zH];first|exact zf (by omega)|exact zg (by omega)|exact zh (by omega)|exact zi (by omega)|exact zj (by omega)|exact zk (by omega)|exact RX.bneB _|rfl) rfl));(focus (simp only[zA,zB,zC,zD];rfl))));refine hR _ _ ?_;clear hR R)
 refine zeX (fun R hR=>?_)
 refine zgX (by first|rfl|(rw[HO.out];rfl)) rfl (fun K hK=>?_)
 go_wp2
 refine⟨(by simp[zO,zJ,zQ]),hR _ _ ?_⟩;clear hR R
 repeat (refine zeX (fun R hR=>?_);(first|refine zaX (by first|rfl|(rw[HO.out];rfl)) (by simp only[zA,zB,zC,zD];rfl) ?_|refine zbX (by first|rfl|(rw[HO.out];rfl)) rfl (by first|exact .inl rfl|exact .inr rfl) (by simp only[zE,zF,zG,zH];rfl) (by simp only[zA,zB,zC,zD];rfl) ?_|refine zcX (by first|rfl|(rw[HO.out];rfl)) rfl rfl (by simp only[zE,zF,zG,zH];rfl) (by simp only[zA,zB,zC,zD];rfl) ?_|(refine zdX (by first|rfl|(rw[HO.out];rfl)) rfl rfl rfl ?_;apply zEx;apply zEx;refine⟨fun w' hS K hK=>?_,?_,?_⟩;(focus (obtain⟨hS1,hS2,hS3,hS4,hS5,hS6⟩:=hS;go_wp2;exact hK _ _ (by simp only[zl,zG,zH];first|exact zf (by omega)|exact zg (by omega)|exact zh (by omega)|exact zi (by omega)|exact zj (by omega)|exact zk (by omega)|exact RX.bneB _|rfl) rfl));(focus (simp only[zA,zB,zC,zD];rfl))));refine hR _ _ ?_;clear hR R)
 refine zeX (fun R hR=>?_)
 refine zgX (by first|rfl|(rw[HO.out];rfl)) rfl (fun K hK=>?_)
 go_wp2
 refine⟨(by simp[zO,zJ,zQ]),hR _ _ ?_⟩;clear hR R
 repeat (refine zeX (fun R hR=>?_);(first|refine zaX (by first|rfl|(rw[HO.out];rfl)) (by simp only[zA,zB,zC,zD];rfl) ?_|refine zbX (by first|rfl|(rw[HO.out];rfl)) rfl (by first|exact .inl rfl|exact .inr rfl) (by simp only[zE,zF,zG,zH];rfl) (by simp only[zA,zB,zC,zD];rfl) ?_|refine zcX (by first|rfl|(rw[HO.out];rfl)) rfl rfl (by simp only[zE,zF,zG,zH];rfl) (by simp only[zA,zB,zC,zD];rfl) ?_|(refine zdX (by first|rfl|(rw[HO.out];rfl)) rfl rfl rfl ?_;apply zEx;apply zEx;refine⟨fun w' hS K hK=>?_,?_,?_⟩;(focus (obtain⟨hS1,hS2,hS3,hS4,hS5,hS6⟩:=hS;go_wp2;exact hK _ _ (by simp only[zl,zG,zH];first|exact zf (by omega)|exact zg (by omega)|exact zh (by omega)|exact zi (by omega)|exact zj (by omega)|exact zk (by omega)|exact RX.bneB _|rfl) rfl));(focus (simp only[zA,zB,zC,zD];rfl))));refine hR _ _ ?_;clear hR R)
 refine zeX (fun R hR=>?_)
 refine zgX (by first|rfl|(rw[HO.out];rfl)) rfl (fun K hK=>?_)
 go_wp2
 refine⟨(by simp[zO,zJ,zQ]),hR _ _ ?_⟩;clear hR R
 refine RX.wpL_nil (hQR _ _ ((by simp[zO,zJ,zQ])) ?_);clear hQR QR HO OPS
 rw[list12 x0 x1 x2 a b c n0 n1 n2 _ HW.out]
 go_wp2
 refine bodyPost_ret (v:=wts ⟨f,a,b,c⟩) ?_ rfl ⟨rfl,?_⟩
 ·simp[results,Tryz.results132,go_sem,wts]
 ·exact (by repeat (first|(with_reducible first|assumption|exact zBr _ _|refine zBs ?_ (by first|omega|(simp<;>omega)) _|refine zBa ?_ (by first|omega|(simp<;>omega)) _|apply zBd)|assumption))
def wtsA (p:Pl):Array Value:=#[.int .i64 (wt p 0),.int .i64 (wt p 1),.int .i64 (wt p 2),.int .i64 (wt p 3),.int .i64 (wt p 4),.int .i64 (wt p 5),.int .i64 (wt p 6),.int .i64 (wt p 7),.int .i64 (wt p 8),.int .i64 (wt p 9),.int .i64 (wt p 10),.int .i64 (wt p 11)]
theorem wtsA_get (p:Pl) (x:Nat) (h:x < 12):(wtsA p)[x]?=some (.int .i64 (wt p x)):=by
 have:x=0∨x=1∨x=2∨x=3∨x=4∨x=5∨x=6∨x=7∨x=8∨x=9∨x=10∨x=11:=by omega
 rcases this with rfl|rfl|rfl|rfl|rfl|rfl|rfl|rfl|rfl|rfl|rfl|rfl<;>rfl
theorem okB_valid (n:Nat) (hn:n < 20) (a b c:Nat):validB n a b c=okB ⟨n,a,b,c⟩:=by
 unfold validB okB
 rw[Bool.eq_iff_iff,decide_eq_true_eq,beq_iff_eq]
 unfold ValidI
 constructor
 ·intro h;show a+b+c=840;omega
 ·intro h
  have:a+b+c=840:=h
  omega
theorem on_any (n:Nat) (hn:n < 20) (p:Pl) (w:World) (hT:HasTab w):Calls Tryz.prog 133 #[.int .i64 n,wts p] w fun e w'=>e=.returned (.tuple #[pv (on n p),.bool (okB (on n p))])∧Below w.heap.size w w':=by
 obtain⟨k0,k1,k2⟩:=hT n hn
 have hlt:=hT.lt
 have hne0:¬ 1=w.heap.size:=by omega
 have hne1:¬ 1=w.heap.size+1:=by omega
 have hne2:¬ 1=w.heap.size+2:=by omega
 have hne3:¬ 1=w.heap.size+3:=by omega
 have hne4:¬ 1=w.heap.size+4:=by omega
 have hnz0:¬ w.heap.size=0:=by omega
 have hpz0:0 < w.heap.size:=by omega
 have hpz1:1≤w.heap.size:=by omega
 have hpz2:1≤w.heap.size:=by omega
 have hnz1:¬ w.heap.size=1:=by omega
 obtain⟨l0,l1,l2⟩:=tab_lt n
 have g0:=wtsA_get p _ l0
 have g1:=wtsA_get p _ l1
 have g2:=wtsA_get p _ l2
 have HON:Hid (on n p=⟨n,wt p (tab n).1,wt p (tab n).2.1,wt p (tab n).2.2⟩):=zN rfl
 generalize (tab n).1=x0 at *
 generalize (tab n).2.1=x1 at *
 generalize (tab n).2.2=x2 at *
 have HV:=zN (okB_valid n hn (wt p x0) (wt p x1) (wt p x2))
 unfold wtsA at g0 g1 g2
 unfold wts
 generalize wt p x0=y0 at *
 generalize wt p x1=y1 at *
 generalize wt p x2=y2 at *
 rw[HON.out]
 generalize (Int.ofNat (wt p 0))=z0 at *
 have HG:=zN (And.intro g0 (And.intro g1 g2))
 clear g0 g1 g2
 go_enter Tryz.func133,Tryz.ntmps133
 go_wp2
 refine RX.region RX.fL (fun w'=>w'.cell? ⟨w.heap.size+2,0,none⟩=some (.int .i64 x0)∧w'.cell? ⟨w.heap.size+2,1,none⟩=some (.int .i64 x1)∧w'.cell? ⟨w.heap.size+2,2,none⟩=some (.int .i64 x2)∧w'.cell? ⟨w.heap.size,x0,none⟩=some (.int .i64 y0)∧w'.cell? ⟨w.heap.size,x1,none⟩=some (.int .i64 y1)∧w'.cell? ⟨w.heap.size,x2,none⟩=some (.int .i64 y2)) (by kernel_rfl) (by kernel_rfl) (by obtain⟨g0,g1,g2⟩:=HG.out;exact⟨(by simp[zO,zJ,zQ]),(by simp[zO,zJ,zQ]),(by simp[zO,zJ,zQ]),(by (try have hLt:=zM _ _ g0);(try simp only at hLt);(repeat first|rw[zO]|rw[zK _ _ _ _ (by first|(simp<;>omega)|omega)]|rw[zJ,if_neg (by first|(simp<;>omega)|omega)]);first|exact g0|(rw[zJ,if_pos (by first|(simp;done)|omega)];exact g0)),(by (try have hLt:=zM _ _ g1);(try simp only at hLt);(repeat first|rw[zO]|rw[zK _ _ _ _ (by first|(simp<;>omega)|omega)]|rw[zJ,if_neg (by first|(simp<;>omega)|omega)]);first|exact g1|(rw[zJ,if_pos (by first|(simp;done)|omega)];exact g1)),(by (try have hLt:=zM _ _ g2);(try simp only at hLt);(repeat first|rw[zO]|rw[zK _ _ _ _ (by first|(simp<;>omega)|omega)]|rw[zJ,if_neg (by first|(simp<;>omega)|omega)]);first|exact g2|(rw[zJ,if_pos (by first|(simp;done)|omega)];exact g2))⟩) (fun OPS HO QR hQR=>?_)
 repeat (refine zeX (fun R hR=>?_);(first|refine zaX (by first|rfl|(rw[HO.out];rfl)) (by simp only[zA,zB,zC,zD];rfl) ?_|refine zbX (by first|rfl|(rw[HO.out];rfl)) rfl (by first|exact .inl rfl|exact .inr rfl) (by simp only[zE,zF,zG,zH];rfl) (by simp only[zA,zB,zC,zD];rfl) ?_|refine zcX (by first|rfl|(rw[HO.out];rfl)) rfl rfl (by simp only[zE,zF,zG,zH];rfl) (by simp only[zA,zB,zC,zD];rfl) ?_|(refine zdX (by first|rfl|(rw[HO.out];rfl)) rfl rfl rfl ?_;apply zEx;apply zEx;refine⟨fun w' hS K hK=>?_,?_,?_⟩;(focus (obtain⟨hS1,hS2,hS3,hS4,hS5,hS6⟩:=hS;go_wp2;exact hK _ _ (by simp only[zl,zG,zH];first|exact zf (by omega)|exact zg (by omega)|exact zh (by omega)|exact zi (by omega)|exact zj (by omega)|exact zk (by omega)|exact RX.bneB _|rfl) rfl));(focus (simp only[zA,zB,zC,zD];rfl))));refine hR _ _ ?_;clear hR R)
 refine zeX (fun R hR=>?_)
 refine zgX (by first|rfl|(rw[HO.out];rfl)) rfl (fun K hK=>?_)
 go_wp2
 refine⟨(by obtain⟨g0,g1,g2⟩:=HG.out;exact⟨(by simp[zO,zJ,zQ]),(by simp[zO,zJ,zQ]),(by simp[zO,zJ,zQ]),(by (try have hLt:=zM _ _ g0);(try simp only at hLt);(repeat first|rw[zO]|rw[zK _ _ _ _ (by first|(simp<;>omega)|omega)]|rw[zJ,if_neg (by first|(simp<;>omega)|omega)]);first|exact g0|(rw[zJ,if_pos (by first|(simp;done)|omega)];exact g0)),(by (try have hLt:=zM _ _ g1);(try simp only at hLt);(repeat first|rw[zO]|rw[zK _ _ _ _ (by first|(simp<;>omega)|omega)]|rw[zJ,if_neg (by first|(simp<;>omega)|omega)]);first|exact g1|(rw[zJ,if_pos (by first|(simp;done)|omega)];exact g1)),(by (try have hLt:=zM _ _ g2);(try simp only at hLt);(repeat first|rw[zO]|rw[zK _ _ _ _ (by first|(simp<;>omega)|omega)]|rw[zJ,if_neg (by first|(simp<;>omega)|omega)]);first|exact g2|(rw[zJ,if_pos (by first|(simp;done)|omega)];exact g2))⟩),hR _ _ ?_⟩;clear hR R
 repeat (refine zeX (fun R hR=>?_);(first|refine zaX (by first|rfl|(rw[HO.out];rfl)) (by simp only[zA,zB,zC,zD];rfl) ?_|refine zbX (by first|rfl|(rw[HO.out];rfl)) rfl (by first|exact .inl rfl|exact .inr rfl) (by simp only[zE,zF,zG,zH];rfl) (by simp only[zA,zB,zC,zD];rfl) ?_|refine zcX (by first|rfl|(rw[HO.out];rfl)) rfl rfl (by simp only[zE,zF,zG,zH];rfl) (by simp only[zA,zB,zC,zD];rfl) ?_|(refine zdX (by first|rfl|(rw[HO.out];rfl)) rfl rfl rfl ?_;apply zEx;apply zEx;refine⟨fun w' hS K hK=>?_,?_,?_⟩;(focus (obtain⟨hS1,hS2,hS3,hS4,hS5,hS6⟩:=hS;go_wp2;exact hK _ _ (by simp only[zl,zG,zH];first|exact zf (by omega)|exact zg (by omega)|exact zh (by omega)|exact zi (by omega)|exact zj (by omega)|exact zk (by omega)|exact RX.bneB _|rfl) rfl));(focus (simp only[zA,zB,zC,zD];rfl))));refine hR _ _ ?_;clear hR R)
 refine zeX (fun R hR=>?_)
 refine zgX (by first|rfl|(rw[HO.out];rfl)) rfl (fun K hK=>?_)
 go_wp2
 refine⟨(by obtain⟨g0,g1,g2⟩:=HG.out;exact⟨(by simp[zO,zJ,zQ]),(by simp[zO,zJ,zQ]),(by simp[zO,zJ,zQ]),(by (try have hLt:=zM _ _ g0);(try simp only at hLt);(repeat first|rw[zO]|rw[zK _ _ _ _ (by first|(simp<;>omega)|omega)]|rw[zJ,if_neg (by first|(simp<;>omega)|omega)]);first|exact g0|(rw[zJ,if_pos (by first|(simp;done)|omega)];exact g0)),(by (try have hLt:=zM _ _ g1);(try simp only at hLt);(repeat first|rw[zO]|rw[zK _ _ _ _ (by first|(simp<;>omega)|omega)]|rw[zJ,if_neg (by first|(simp<;>omega)|omega)]);first|exact g1|(rw[zJ,if_pos (by first|(simp;done)|omega)];exact g1)),(by (try have hLt:=zM _ _ g2);(try simp only at hLt);(repeat first|rw[zO]|rw[zK _ _ _ _ (by first|(simp<;>omega)|omega)]|rw[zJ,if_neg (by first|(simp<;>omega)|omega)]);first|exact g2|(rw[zJ,if_pos (by first|(simp;done)|omega)];exact g2))⟩),hR _ _ ?_⟩;clear hR R
 refine RX.wpL_nil (hQR _ _ ((by obtain⟨g0,g1,g2⟩:=HG.out;exact⟨(by simp[zO,zJ,zQ]),(by simp[zO,zJ,zQ]),(by simp[zO,zJ,zQ]),(by (try have hLt:=zM _ _ g0);(try simp only at hLt);(repeat first|rw[zO]|rw[zK _ _ _ _ (by first|(simp<;>omega)|omega)]|rw[zJ,if_neg (by first|(simp<;>omega)|omega)]);first|exact g0|(rw[zJ,if_pos (by first|(simp;done)|omega)];exact g0)),(by (try have hLt:=zM _ _ g1);(try simp only at hLt);(repeat first|rw[zO]|rw[zK _ _ _ _ (by first|(simp<;>omega)|omega)]|rw[zJ,if_neg (by first|(simp<;>omega)|omega)]);first|exact g1|(rw[zJ,if_pos (by first|(simp;done)|omega)];exact g1)),(by (try have hLt:=zM _ _ g2);(try simp only at hLt);(repeat first|rw[zO]|rw[zK _ _ _ _ (by first|(simp<;>omega)|omega)]|rw[zJ,if_neg (by first|(simp<;>omega)|omega)]);first|exact g2|(rw[zJ,if_pos (by first|(simp;done)|omega)];exact g2))⟩)) ?_);clear hQR QR HO OPS
 go_wp2
 refine RX.region RX.fL (fun w'=>w'.cell? ⟨w.heap.size+3,0,none⟩=some (.int .i64 n)∧w'.cell? ⟨w.heap.size+3,1,none⟩=some (.int .i64 y0)∧w'.cell? ⟨w.heap.size+3,2,none⟩=some (.int .i64 y1)∧w'.cell? ⟨w.heap.size+3,3,none⟩=some (.int .i64 y2)) (by kernel_rfl) (by kernel_rfl) ((by simp[zO,zJ,zQ])) (fun OPS HO QR hQR=>?_)
 repeat (refine zeX (fun R hR=>?_);(first|refine zaX (by first|rfl|(rw[HO.out];rfl)) (by simp only[zA,zB,zC,zD];rfl) ?_|refine zbX (by first|rfl|(rw[HO.out];rfl)) rfl (by first|exact .inl rfl|exact .inr rfl) (by simp only[zE,zF,zG,zH];rfl) (by simp only[zA,zB,zC,zD];rfl) ?_|refine zcX (by first|rfl|(rw[HO.out];rfl)) rfl rfl (by simp only[zE,zF,zG,zH];rfl) (by simp only[zA,zB,zC,zD];rfl) ?_|(refine zdX (by first|rfl|(rw[HO.out];rfl)) rfl rfl rfl ?_;apply zEx;apply zEx;refine⟨fun w' hS K hK=>?_,?_,?_⟩;(focus (obtain⟨hS1,hS2,hS3,hS4⟩:=hS;go_wp2;exact hK _ _ (by simp only[zl,zG,zH];first|exact zf (by omega)|exact zg (by omega)|exact zh (by omega)|exact zi (by omega)|exact zj (by omega)|exact zk (by omega)|exact RX.bneB _|rfl) rfl));(focus (simp only[zA,zB,zC,zD];rfl))));refine hR _ _ ?_;clear hR R)
 refine zeX (fun R hR=>?_)
 refine zgX (by first|rfl|(rw[HO.out];rfl)) rfl (fun K hK=>?_)
 go_wp2_with fail
 refine (valid_any n y0 y1 y2 _).mono ?_
 rintro e w1 ⟨rfl,hb1⟩
 rw[HV.out]
 have c0:w1.cell? ⟨w.heap.size+3,0,none⟩=some (.int .i64 n):=zP hb1 (by simp[zO,zJ,zQ])
 have c1:w1.cell? ⟨w.heap.size+3,1,none⟩=some (.int .i64 y0):=zP hb1 (by simp[zO,zJ,zQ])
 have c2:w1.cell? ⟨w.heap.size+3,2,none⟩=some (.int .i64 y1):=zP hb1 (by simp[zO,zJ,zQ])
 have c3:w1.cell? ⟨w.heap.size+3,3,none⟩=some (.int .i64 y2):=zP hb1 (by simp[zO,zJ,zQ])
 have q0:w1.cell? ⟨w.heap.size+1,0,none⟩=some (.int .i64 0):=zP hb1 (by simp[zO,zJ,zQ])
 have q1:w1.cell? ⟨w.heap.size+1,1,none⟩=some (.int .i64 0):=zP hb1 (by simp[zO,zJ,zQ])
 have q2:w1.cell? ⟨w.heap.size+1,2,none⟩=some (.int .i64 0):=zP hb1 (by simp[zO,zJ,zQ])
 have q3:w1.cell? ⟨w.heap.size+1,3,none⟩=some (.int .i64 0):=zP hb1 (by simp[zO,zJ,zQ])
 have f0:w1.frozen? ⟨w.heap.size+1,0,none⟩=false:=(hb1.frozen (by simp<;>omega)).trans (by simp[RX.frozen_drew,RX.frozen_alloc,zQ])
 have f1:w1.frozen? ⟨w.heap.size+1,1,none⟩=false:=(hb1.frozen (by simp<;>omega)).trans (by simp[RX.frozen_drew,RX.frozen_alloc,zQ])
 have f2:w1.frozen? ⟨w.heap.size+1,2,none⟩=false:=(hb1.frozen (by simp<;>omega)).trans (by simp[RX.frozen_drew,RX.frozen_alloc,zQ])
 have f3:w1.frozen? ⟨w.heap.size+1,3,none⟩=false:=(hb1.frozen (by simp<;>omega)).trans (by simp[RX.frozen_drew,RX.frozen_alloc,zQ])
 have hB:Below w.heap.size w w1:=Below.trans (by repeat (first|(with_reducible first|assumption|exact zBr _ _|refine zBs ?_ (by first|omega|(simp<;>omega)) _|refine zBa ?_ (by first|omega|(simp<;>omega)) _|apply zBd)|assumption)) (hb1.mono (by simp;omega))
 clear hb1
 refine hK _ _ ⟨⟨c0,c1,c2,c3⟩,hR _ _ ?_⟩;clear hK K hR R
 refine zeX (fun R hR=>?_)
 refine zgX (by first|rfl|(rw[HO.out];rfl)) rfl (fun K hK=>?_)
 go_wp2
 refine⟨⟨(by (try have hLt:=zM _ _ c0);(try simp only at hLt);(repeat first|rw[zO]|rw[zK _ _ _ _ (by first|(simp<;>omega)|omega)]|rw[zJ,if_neg (by first|(simp<;>omega)|omega)]);first|exact c0|(rw[zJ,if_pos (by first|(simp;done)|omega)];exact c0)),(by (try have hLt:=zM _ _ c1);(try simp only at hLt);(repeat first|rw[zO]|rw[zK _ _ _ _ (by first|(simp<;>omega)|omega)]|rw[zJ,if_neg (by first|(simp<;>omega)|omega)]);first|exact c1|(rw[zJ,if_pos (by first|(simp;done)|omega)];exact c1)),(by (try have hLt:=zM _ _ c2);(try simp only at hLt);(repeat first|rw[zO]|rw[zK _ _ _ _ (by first|(simp<;>omega)|omega)]|rw[zJ,if_neg (by first|(simp<;>omega)|omega)]);first|exact c2|(rw[zJ,if_pos (by first|(simp;done)|omega)];exact c2)),(by (try have hLt:=zM _ _ c3);(try simp only at hLt);(repeat first|rw[zO]|rw[zK _ _ _ _ (by first|(simp<;>omega)|omega)]|rw[zJ,if_neg (by first|(simp<;>omega)|omega)]);first|exact c3|(rw[zJ,if_pos (by first|(simp;done)|omega)];exact c3))⟩,hR _ _ ?_⟩;clear hR R
 repeat (refine zeX (fun R hR=>?_);(first|refine zaX (by first|rfl|(rw[HO.out];rfl)) (by simp only[zA,zB,zC,zD];rfl) ?_|refine zbX (by first|rfl|(rw[HO.out];rfl)) rfl (by first|exact .inl rfl|exact .inr rfl) (by simp only[zE,zF,zG,zH];rfl) (by simp only[zA,zB,zC,zD];rfl) ?_|refine zcX (by first|rfl|(rw[HO.out];rfl)) rfl rfl (by simp only[zE,zF,zG,zH];rfl) (by simp only[zA,zB,zC,zD];rfl) ?_|(refine zdX (by first|rfl|(rw[HO.out];rfl)) rfl rfl rfl ?_;apply zEx;apply zEx;refine⟨fun w' hS K hK=>?_,?_,?_⟩;(focus (obtain⟨hS1,hS2,hS3,hS4⟩:=hS;go_wp2;exact hK _ _ (by simp only[zl,zG,zH];first|exact zf (by omega)|exact zg (by omega)|exact zh (by omega)|exact zi (by omega)|exact zj (by omega)|exact zk (by omega)|exact RX.bneB _|rfl) rfl));(focus (simp only[zA,zB,zC,zD];rfl))));refine hR _ _ ?_;clear hR R)
 refine RX.wpL_nil (hQR _ _ (⟨(by (try have hLt:=zM _ _ c0);(try simp only at hLt);(repeat first|rw[zO]|rw[zK _ _ _ _ (by first|(simp<;>omega)|omega)]|rw[zJ,if_neg (by first|(simp<;>omega)|omega)]);first|exact c0|(rw[zJ,if_pos (by first|(simp;done)|omega)];exact c0)),(by (try have hLt:=zM _ _ c1);(try simp only at hLt);(repeat first|rw[zO]|rw[zK _ _ _ _ (by first|(simp<;>omega)|omega)]|rw[zJ,if_neg (by first|(simp<;>omega)|omega)]);first|exact c1|(rw[zJ,if_pos (by first|(simp;done)|omega)];exact c1)),(by (try have hLt:=zM _ _ c2);(try simp only at hLt);(repeat first|rw[zO]|rw[zK _ _ _ _ (by first|(simp<;>omega)|omega)]|rw[zJ,if_neg (by first|(simp<;>omega)|omega)]);first|exact c2|(rw[zJ,if_pos (by first|(simp;done)|omega)];exact c2)),(by (try have hLt:=zM _ _ c3);(try simp only at hLt);(repeat first|rw[zO]|rw[zK _ _ _ _ (by first|(simp<;>omega)|omega)]|rw[zJ,if_neg (by first|(simp<;>omega)|omega)]);first|exact c3|(rw[zJ,if_pos (by first|(simp;done)|omega)];exact c3))⟩) ?_);clear hQR QR HO OPS
 go_wp2
 refine bodyPost_ret (v:=.tuple #[pv ⟨n,y0,y1,y2⟩,.bool (okB ⟨n,y0,y1,y2⟩)]) ?_ rfl ⟨rfl,?_⟩
 ·simp[results,Tryz.results133,go_sem,pv,q0,q1,q2,q3]
 ·exact (by repeat (first|(with_reducible first|assumption|exact zBr _ _|refine zBs ?_ (by first|omega|(simp<;>omega)) _|refine zBa ?_ (by first|omega|(simp<;>omega)) _|apply zBd)|assumption))
theorem normal_any (p:Pl) (hp:p.Ok) (w:World) (hT:HasTab w):Calls Tryz.prog 112 #[pv p] w fun e w'=>e=.returned (.tuple #[pv (normal p),.int .i64 0])∧Below w.heap.size w w':=by
 have hv:validB p.f p.a p.b p.c=true:=zDt (Ok.valid hp)
 have hlt:=hT.lt
 have hne0:¬ 1=w.heap.size:=by omega
 have hne1:¬ 1=w.heap.size+1:=by omega
 have hne2:¬ 1=w.heap.size+2:=by omega
 have hne3:¬ 1=w.heap.size+3:=by omega
 have hne4:¬ 1=w.heap.size+4:=by omega
 have hnz0:¬ w.heap.size=0:=by omega
 have hpz0:0 < w.heap.size:=by omega
 have hpz1:1≤w.heap.size:=by omega
 have hpz2:1≤w.heap.size:=by omega
 have hnz1:¬ w.heap.size=1:=by omega
 have HP:=zN hp
 have hf20:=hp.f
 clear hp
 simp only[pv]
 go_enter Tryz.func112,Tryz.ntmps112
 go_wp2_with fail
 refine (valid_any p.f p.a p.b p.c _).mono ?_
 rintro e w1 ⟨rfl,hb1⟩
 rw[hv]
 have p0:w1.cell? ⟨w.heap.size,0,none⟩=some (.int .i64 p.f):=zP hb1 (by simp[zO,zJ,zQ])
 have p1:w1.cell? ⟨w.heap.size,1,none⟩=some (.int .i64 p.a):=zP hb1 (by simp[zO,zJ,zQ])
 have p2:w1.cell? ⟨w.heap.size,2,none⟩=some (.int .i64 p.b):=zP hb1 (by simp[zO,zJ,zQ])
 have p3:w1.cell? ⟨w.heap.size,3,none⟩=some (.int .i64 p.c):=zP hb1 (by simp[zO,zJ,zQ])
 have q0:w1.cell? ⟨w.heap.size+1,0,none⟩=some (.int .i64 0):=zP hb1 (by simp[zO,zJ,zQ])
 have q1:w1.cell? ⟨w.heap.size+1,1,none⟩=some (.int .i64 0):=zP hb1 (by simp[zO,zJ,zQ])
 have q2:w1.cell? ⟨w.heap.size+1,2,none⟩=some (.int .i64 0):=zP hb1 (by simp[zO,zJ,zQ])
 have q3:w1.cell? ⟨w.heap.size+1,3,none⟩=some (.int .i64 0):=zP hb1 (by simp[zO,zJ,zQ])
 have f0:w1.frozen? ⟨w.heap.size+1,0,none⟩=false:=(hb1.frozen (by simp<;>omega)).trans (by simp[RX.frozen_drew,RX.frozen_alloc,zQ])
 have f1:w1.frozen? ⟨w.heap.size+1,1,none⟩=false:=(hb1.frozen (by simp<;>omega)).trans (by simp[RX.frozen_drew,RX.frozen_alloc,zQ])
 have f2:w1.frozen? ⟨w.heap.size+1,2,none⟩=false:=(hb1.frozen (by simp<;>omega)).trans (by simp[RX.frozen_drew,RX.frozen_alloc,zQ])
 have f3:w1.frozen? ⟨w.heap.size+1,3,none⟩=false:=(hb1.frozen (by simp<;>omega)).trans (by simp[RX.frozen_drew,RX.frozen_alloc,zQ])
 have hB:Below w.heap.size w w1:=Below.trans (by repeat (first|(with_reducible first|assumption|exact zBr _ _|refine zBs ?_ (by first|omega|(simp<;>omega)) _|refine zBa ?_ (by first|omega|(simp<;>omega)) _|apply zBd)|assumption)) (hb1.mono (by simp;omega))
 have hs1:w.heap.size+2≤w1.heap.size:=by have:=hb1.size;simp at this;omega
 clear hb1
 have hT1:=hT.below hB
 go_wp2_with fail
 refine (of_any p hf20 _ hT1).mono ?_
 rintro e w2 ⟨rfl,hb2⟩
 have q0':=zP hb2 q0
 have q1':=zP hb2 q1
 have q2':=zP hb2 q2
 have q3':=zP hb2 q3
 have f0':=(hb2.frozen (p:=⟨w.heap.size+1,0,none⟩) (by show w.heap.size+1 < _;omega)).trans f0
 have f1':=(hb2.frozen (p:=⟨w.heap.size+1,1,none⟩) (by show w.heap.size+1 < _;omega)).trans f1
 have f2':=(hb2.frozen (p:=⟨w.heap.size+1,2,none⟩) (by show w.heap.size+1 < _;omega)).trans f2
 have f3':=(hb2.frozen (p:=⟨w.heap.size+1,3,none⟩) (by show w.heap.size+1 < _;omega)).trans f3
 have hB2:Below w.heap.size w w2:=hB.trans (hb2.mono (by omega))
 have hs2:w.heap.size+2≤w2.heap.size:=by have:=hb2.size;omega
 clear hb2 hB q0 q1 q2 q3 f0 f1 f2 f3 p0 p1 p2 p3 hs1 hT1 hv
 obtain⟨B2,hB2e⟩:∃ x,x=w2.heap.size:=⟨_,rfl⟩
 unfold wts
 go_wp2
 rw[←hB2e]
 refine absW (F:=fun w'=>(∀ j,j < 12→w'.cell? ⟨B2,j,none⟩=some (.int .i64 (wt p j)))∧(w'.cell? ⟨w.heap.size+1,0,none⟩=some (.int .i64 0)∧w'.cell? ⟨w.heap.size+1,1,none⟩=some (.int .i64 0)∧w'.cell? ⟨w.heap.size+1,2,none⟩=some (.int .i64 0)∧w'.cell? ⟨w.heap.size+1,3,none⟩=some (.int .i64 0))∧(w'.frozen? ⟨w.heap.size+1,0,none⟩=false∧w'.frozen? ⟨w.heap.size+1,1,none⟩=false∧w'.frozen? ⟨w.heap.size+1,2,none⟩=false∧w'.frozen? ⟨w.heap.size+1,3,none⟩=false)∧Below w.heap.size w w'∧w.heap.size+2≤w'.heap.size) ⟨?_,⟨?_,?_,?_,?_⟩,⟨?_,?_,?_,?_⟩,?_,?_⟩ ?_
 ·intro j hj
  rw[zJ,if_pos hB2e]
  exact wtsA_get p j hj
 ·exact (by (try have hLt:=zM _ _ q0');(try simp only at hLt);(repeat first|rw[zO]|rw[zK _ _ _ _ (by first|(simp<;>omega)|omega)]|rw[zJ,if_neg (by first|(simp<;>omega)|omega)]);first|exact q0'|(rw[zJ,if_pos (by first|(simp;done)|omega)];exact q0'))
 ·exact (by (try have hLt:=zM _ _ q1');(try simp only at hLt);(repeat first|rw[zO]|rw[zK _ _ _ _ (by first|(simp<;>omega)|omega)]|rw[zJ,if_neg (by first|(simp<;>omega)|omega)]);first|exact q1'|(rw[zJ,if_pos (by first|(simp;done)|omega)];exact q1'))
 ·exact (by (try have hLt:=zM _ _ q2');(try simp only at hLt);(repeat first|rw[zO]|rw[zK _ _ _ _ (by first|(simp<;>omega)|omega)]|rw[zJ,if_neg (by first|(simp<;>omega)|omega)]);first|exact q2'|(rw[zJ,if_pos (by first|(simp;done)|omega)];exact q2'))
 ·exact (by (try have hLt:=zM _ _ q3');(try simp only at hLt);(repeat first|rw[zO]|rw[zK _ _ _ _ (by first|(simp<;>omega)|omega)]|rw[zJ,if_neg (by first|(simp<;>omega)|omega)]);first|exact q3'|(rw[zJ,if_pos (by first|(simp;done)|omega)];exact q3'))
 ·rw[RX.frozen_alloc,if_neg (by omega)];exact f0'
 ·rw[RX.frozen_alloc,if_neg (by omega)];exact f1'
 ·rw[RX.frozen_alloc,if_neg (by omega)];exact f2'
 ·rw[RX.frozen_alloc,if_neg (by omega)];exact f3'
 ·exact hB2.alloc (by omega) _
 ·simp;omega
 rintro W1 ⟨d,⟨q0,q1,q2,q3⟩,⟨f0,f1,f2,f3⟩,hB,hs⟩
 clear hB2 q0' q1' q2' q3' f0' f1' f2' f3' hs2 hB2e
 clear w2 w1
 have hTW:=hT.below hB
 go_loopw [14] (fun i wr=>∃ k:Nat,k≤20∧i=.int .i64 k∧Hid (∀ j,j < k→okB (on j p)=false)∧Below W1.heap.size W1 wr) (fun i _=>20-(intOf i).toNat)
 case atStart=>exact⟨0,by omega,rfl,zN fun j hj=>by omega,zBr _ _⟩
 case round=>
  obtain⟨k,hk,rfl,HK,hbr⟩:=hrel
  have e0:=zP hbr (d 0 (by omega))
  have e1:=zP hbr (d 1 (by omega))
  have e2:=zP hbr (d 2 (by omega))
  have e3:=zP hbr (d 3 (by omega))
  have e4:=zP hbr (d 4 (by omega))
  have e5:=zP hbr (d 5 (by omega))
  have e6:=zP hbr (d 6 (by omega))
  have e7:=zP hbr (d 7 (by omega))
  have e8:=zP hbr (d 8 (by omega))
  have e9:=zP hbr (d 9 (by omega))
  have e10:=zP hbr (d 10 (by omega))
  have e11:=zP hbr (d 11 (by omega))
  have r0:=zP hbr q0
  have r1:=zP hbr q1
  have r2:=zP hbr q2
  have r3:=zP hbr q3
  have g0:=(hbr.frozen (p:=⟨w.heap.size+1,0,none⟩) (by show w.heap.size+1 < _;omega)).trans f0
  have g1:=(hbr.frozen (p:=⟨w.heap.size+1,1,none⟩) (by show w.heap.size+1 < _;omega)).trans f1
  have g2:=(hbr.frozen (p:=⟨w.heap.size+1,2,none⟩) (by show w.heap.size+1 < _;omega)).trans f2
  have g3:=(hbr.frozen (p:=⟨w.heap.size+1,3,none⟩) (by show w.heap.size+1 < _;omega)).trans f3
  have hTr:=hTW.below hbr
  clear d q0 q1 q2 q3 f0 f1 f2 f3
  by_cases hlt:k < 20
  ·go_wp2_with fail
   refine (on_any k hlt p _ hTr).mono ?_
   rintro e w3 ⟨rfl,hb3⟩
   cases hok:okB (on k p)
   ·have HO:=zN hok
    clear hok
    have hb4:Below W1.heap.size W1 w3:=hbr.trans (hb3.mono hbr.size)
    clear hb3 hbr r0 r1 r2 r3 g0 g1 g2 g3 e0 e1 e2 e3 e4 e5 e6 e7 e8 e9 e10 e11
    unfold pv
    go_wp2
    go_roundw
    case rel=>exact⟨k+1,by omega,by go_num,zN fun j hj=>by
     by_cases hjk:j=k
     ·subst hjk;exact HO.out
     ·exact HK.out j (by omega),hb4.alloc hb4.size _⟩
    case measure=>simp[intOf];omega
   ·have HE:=zN (normal_first HP.out hlt hok HK.out)
    clear hok
    have r0':=zP hb3 r0
    have r1':=zP hb3 r1
    have r2':=zP hb3 r2
    have r3':=zP hb3 r3
    have g0':=(hb3.frozen (p:=⟨w.heap.size+1,0,none⟩) (show w.heap.size+1 < wr.heap.size from zM wr ⟨w.heap.size+1,0,none⟩ r0)).trans g0
    have g1':=(hb3.frozen (p:=⟨w.heap.size+1,1,none⟩) (show w.heap.size+1 < wr.heap.size from zM wr ⟨w.heap.size+1,0,none⟩ r0)).trans g1
    have g2':=(hb3.frozen (p:=⟨w.heap.size+1,2,none⟩) (show w.heap.size+1 < wr.heap.size from zM wr ⟨w.heap.size+1,0,none⟩ r0)).trans g2
    have g3':=(hb3.frozen (p:=⟨w.heap.size+1,3,none⟩) (show w.heap.size+1 < wr.heap.size from zM wr ⟨w.heap.size+1,0,none⟩ r0)).trans g3
    have hb4:Below W1.heap.size W1 w3:=hbr.trans (hb3.mono hbr.size)
    have hb5:Below w.heap.size w w3:=hB.trans (hb4.mono hB.size)
    have hs3:=hb5.size
    clear hb3 hbr r0 r1 r2 r3 g0 g1 g2 g3 e0 e1 e2 e3 e4 e5 e6 e7 e8 e9 e10 e11 hb4
    have hlt3:w.heap.size+1 < w3.heap.size:=zM _ _ r0'
    unfold pv
    go_wp2
    refine bodyPost_ret (v:=.tuple #[pv (on k p),.int .i64 0]) ?_ rfl ⟨?_,?_⟩
    ·have hne:¬ (w.heap.size+1=w3.heap.size):=by omega
     simp[results,Tryz.results112,go_sem,pv,zJ,hne,r0',r1',r2',r3']
    ·rw[←HE.out];rfl
    ·exact (by repeat (first|(with_reducible first|assumption|exact zBr _ _|refine zBs ?_ (by first|omega|(simp<;>omega)) _|refine zBa ?_ (by first|omega|(simp<;>omega)) _|apply zBd)|assumption))
  ·exfalso
   obtain⟨g,_,hg,hg2,_⟩:=nface_some HP.out
   have:=HK.out g (by omega)
   rw[this] at hg2
   cases hg2
end Go.Proofs.YtednaajanciabaaGreatDoor
