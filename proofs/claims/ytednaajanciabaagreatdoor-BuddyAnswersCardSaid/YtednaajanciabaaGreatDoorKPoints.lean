import Derived.Test.YtednaajanciabaaGreatDoorKPlace
import Derived.Maps.OwnSet
import Derived.Maps.OwnOps
import Derived.DeepKeys4
import Derived.Test.YtednaajanciabaaGreatDoorKRegion
import Derived.Laws.StructEq
set_option maxRecDepth 100000
set_option maxHeartbeats 8000000
set_option linter.unusedSimpArgs false
set_option linter.unusedVariables false
namespace Go.Proofs.YtednaajanciabaaGreatDoor
open Go.RowKit Go.Grid Go.Maps
theorem laidOutP:laidOutB Tryz.prog=true:=by kernel_rfl
theorem rowPl:(41:TypeId) < Tryz.prog.types.size:=of_decide_eq_true (by kernel_rfl)
theorem widePl:(match Tryz.prog.underlying 41 with|some (.array _ _)|some (.struct _)=>true|_=>false)=true:=by kernel_rfl
theorem lawPl:Keyed Tryz.prog 41:=Keyed.of_law (deep_law_laid laidOutP (m:=3) (by omega) rowPl (by kernel_rfl) widePl)
theorem zeroI (w:World):(zeroValue 3).run Tryz.prog w=.ok (.int .i64 0) w:=by kernel_rfl
theorem keyTypePl:Tryz.prog.keyType 41=true:=by kernel_rfl
theorem cellsPl:Tryz.prog.cellsOf 41=4:=by kernel_rfl
theorem cellsInt:Tryz.prog.cellsOf 3=1:=by kernel_rfl
def Fits (p:Pl):Prop:=p.f≤1000000∧p.a≤1000000∧p.b≤1000000∧p.c≤1000000
theorem Ok.fits {p:Pl} (h:p.Ok):Fits p:=by
 have:=h.f;have:=h.s;unfold Fits;omega
theorem key_pl (p:Pl) (h:Fits p):∃ kl,keyOf Tryz.prog 41 (pv p)=some kl:=by
 obtain⟨h1,h2,h3,h4⟩:=h
 have w1:(Lit.int .i64 (p.f:Int)).wf=true:=WalkArith.wf_i64 (by omega)
 have w2:(Lit.int .i64 (p.a:Int)).wf=true:=WalkArith.wf_i64 (by omega)
 have w3:(Lit.int .i64 (p.b:Int)).wf=true:=WalkArith.wf_i64 (by omega)
 have w4:(Lit.int .i64 (p.c:Int)).wf=true:=WalkArith.wf_i64 (by omega)
 obtain⟨m,hm⟩:∃ m,Tryz.prog.types.size+1=m+2:=⟨Tryz.prog.types.size-1,by have h0:0 < Tryz.prog.types.size:=Nat.lt_of_le_of_lt (Nat.zero_le _) rowPl;omega⟩
 unfold keyOf
 rw[hm]
 simp[Tryz.underlying41,Tryz.underlying3,keyTypePl,Value.formed,Program.keyLits,cellsPl,cellsInt,pv,Value.cells,w1,w2,w3,w4]
theorem pv_inj {p q:Pl} (h:pv p=pv q):p=q:=by
 unfold pv at h
 simp at h
 obtain⟨h1,h2,h3,h4⟩:=h
 exact Pl.ext' (by omega) (by omega) (by omega) (by omega)
def IdxMap (w:World) (B:Nat) (L:List Pl):Prop:=∃ D:DataW Unit,w.ownsMap Tryz.prog 41 (plainElem Tryz.prog 3) B L.length D∧
 ∀ q kl,Fits q→keyOf Tryz.prog 41 (pv q)=some kl→D.atKey kl (.lit (.int .i64 0))=.lit (.int .i64 (((ix L q).getD 0:Nat):Int))∧Maps.has D kl=(ix L q).isSome
theorem IdxMap.lt {w:World} {B:Nat} {L:List Pl} (h:IdxMap w B L):B < w.heap.size:=by obtain⟨D,h,_⟩:=h;exact h.lt
theorem IdxMap.kept {w w':World} {B:Nat} {L:List Pl} {row:Option Nat} (h:IdxMap w B L) (hg:w.grownBy w' row) (hne:some B≠row):IdxMap w' B L:=by
 obtain⟨D,h1,h2⟩:=h;exact⟨D,h1.kept hg hne,h2⟩
theorem IdxMap.block {w w':World} {B:Nat} {L:List Pl} (h:IdxMap w B L) (hb:w'.heap[B]?=w.heap[B]?):IdxMap w' B L:=by
 obtain⟨D,⟨es,clock,h1,h2⟩,h3⟩:=h;exact⟨D,⟨es,clock,hb.trans h1,h2⟩,h3⟩
theorem IdxMap.below {w w':World} {B:Nat} {L:List Pl} (h:IdxMap w B L) (hb:Below w.heap.size w w'):IdxMap w' B L:=h.block (hb.block _ h.lt)
theorem IdxMap.alloc {w:World} {B:Nat} {L:List Pl} (h:IdxMap w B L) (o:Obj):IdxMap (w.alloc o) B L:=h.kept (World.grownBy_alloc w o none) (by simp)
theorem IdxMap.drew {w:World} {B:Nat} {L:List Pl} (h:IdxMap w B L):IdxMap w.drew B L:=h
theorem IdxMap.made (w:World):IdxMap (w.alloc (.map #[] 0)) w.heap.size []:=
 ⟨.map [],World.ownsMap_made _ _ _ _,fun q kl _ _=>⟨rfl,rfl⟩⟩
theorem put_reads {D:DataW Unit} {L:List Pl} {p:Pl} {kp:Lit} (hm:Maps.IsMap D) (hnot:p ∉ L) (hp:keyOf Tryz.prog 41 (pv p)=some kp)
  (h:∀ q kl,Fits q→keyOf Tryz.prog 41 (pv q)=some kl→D.atKey kl (.lit (.int .i64 0))=.lit (.int .i64 (((ix L q).getD 0:Nat):Int))∧Maps.has D kl=(ix L q).isSome) :
  ∀ q kl,Fits q→keyOf Tryz.prog 41 (pv q)=some kl→(D.put kp (.lit (.int .i64 ((L.length:Nat):Int)))).atKey kl (.lit (.int .i64 0))=.lit (.int .i64 (((ix (L ++ [p]) q).getD 0:Nat):Int))∧Maps.has (D.put kp (.lit (.int .i64 ((L.length:Nat):Int)))) kl=(ix (L ++ [p]) q).isSome:=by
 intro q kl hf hq
 have hk:WideAt.IsKeyLit kp:=lawPl.key hp
 by_cases hpq:q=p
 ·subst hpq
  rw[hp] at hq
  injection hq with hq
  subst hq
  rw[ix_snoc_new hnot,Maps.atKey_put_same hm hk,Maps.has_put_same hm hk]
  exact⟨rfl,rfl⟩
 ·have hne:kl≠kp:=fun e=>hpq (pv_inj (lawPl.inj hq (e ▸ hp)))
  rw[ix_snoc_old hpq,Maps.atKey_put_other hne,Maps.has_put_other hne]
  exact h q kl hf hq
theorem elPl:RX.ElemOf Tryz.prog 99 41 (.agg #[.int .i64 0,.int .i64 0,.int .i64 0,.int .i64 0]) 4 32:=⟨Tryz.underlying99,by kernel_rfl,rfl,by decide⟩
def plCells (p:Pl):List Value:=[.int .i64 p.f,.int .i64 p.a,.int .i64 p.b,.int .i64 p.c]
def plVals (L:List Pl):List Value:=L.flatMap plCells
theorem plVals_snoc (L:List Pl) (p:Pl):plVals (L ++ [p])=plVals L ++ [.int .i64 p.f,.int .i64 p.a,.int .i64 p.b,.int .i64 p.c]:=by simp[plVals,plCells]
structure NetAt (w:World) (g n base:Nat) (L:List Pl):Prop where
 cn:w.cell? ⟨g,0,none⟩=some (.int .i64 n)
 ch:w.cell? ⟨g,1,none⟩=some (.int .i64 (hh n))
 fr:∀ j,w.frozen? ⟨g,j,none⟩=false
 hb:g < base∧base≤w.heap.size
 nd:∃ v B,w.cell? ⟨g,2,none⟩=some v∧w.cell? ⟨g,3,none⟩=some (.map (some B))∧w.ownsRow base 41 4 v L.length (plVals L)∧IdxMap w B L∧B+1=g
theorem wp_mapUpd {o:Oper} {a:Act} {w:World} {K:Act→World→Prop} {Q:Exit→Act→World→Prop} (m x v:Operand) (ho:o.op=.mapUpdate 110 m x v) (B:Nat) (L:List Pl) (p:Pl) (hI:IdxMap w B L) (hL:L.length≤100000) (hp:Fits p) (hnot:p ∉ L)
  (hm:a.eval m=.map (some B)) (hx:a.eval x=pv p) (hv:a.eval v=.int .i64 ((L.length:Nat):Int))
  (h:∀ w',IdxMap w' B (L ++ [p])→w.grownBy w' (some B)→K (a.put o.dst undef) w'):o.wp Tryz.prog a w K Q:=by
 obtain⟨D,hown,hr⟩:=hI
 obtain⟨kp,hkp⟩:=key_pl p hp
 obtain⟨w',hrun,h1,h2⟩:=hown.update lawPl Tryz.underlying110 (by unfold maxLen;omega) hkp (plainElem_int Tryz.underlying3 (a:=((L.length:Nat):Int)) (WalkArith.wf_i64 (by omega)))
 unfold Oper.wp
 simp[execOp,ho,hm,hx,hv,hrun,Result.andThen]
 exact h w' ⟨_,by simpa using h1,put_reads hown.isMap hnot hkp hr⟩ h2
theorem NetAt.kept {w w':World} {g n base:Nat} {L:List Pl} {row:Option Nat} (h:NetAt w g n base L) (hg:w.grownBy w' row) (hr:∀ k,row=some k→w.heap.size≤k):NetAt w' g n base L:=by
 have hlt:g < w.heap.size:=zM w _ h.cn
 have hne:some g≠row:=fun e=>by have:=hr g e.symm;omega
 obtain⟨v,B,h1,h2,h3,h4,h5⟩:=h.nd
 refine⟨hg.cell h.cn hne,hg.cell h.ch hne,fun j=>(zFb (hg.block g hlt hne)).trans (h.fr j),⟨h.hb.1,Nat.le_trans h.hb.2 hg.size⟩,v,B,hg.cell h1 hne,hg.cell h2 hne,h3.kept hg ?_,h4.kept hg ?_,h5⟩
 ·cases ho:v.ownBlock with
  |none=>exact .inl rfl
  |some k=>
   have:=(h3.lt k ho).2
   refine .inr fun e=>?_
   have:=hr k e.symm;omega
 ·intro e
  have:=hr B e.symm;have:=h.hb;omega
theorem NetAt.below {w w':World} {g n base:Nat} {L:List Pl} (h:NetAt w g n base L) (hb:Below w.heap.size w w'):NetAt w' g n base L:=
 h.kept (row:=none) ⟨hb.os,hb.tape,hb.output,hb.size,fun k hk _=>hb.block k hk⟩ (fun k e=>by cases e)
structure PtsInv (w wr:World) (n:Nat) (L:List Pl):Prop where
 net:NetAt wr (w.heap.size+1) n (w.heap.size+2) L
 c4:wr.cell? ⟨w.heap.size+1,4,none⟩=some (.slice none 0 0)
 c5:wr.cell? ⟨w.heap.size+1,5,none⟩=some (.slice none 0 0)
 c6:wr.cell? ⟨w.heap.size+1,6,none⟩=some (.slice none 0 0)
 below:Below w.heap.size w wr
theorem PtsInv.lt {w wr:World} {n:Nat} {L:List Pl} (h:PtsInv w wr n L):w.heap.size+2≤wr.heap.size:=h.net.hb.2
theorem PtsInv.next {w wr w':World} {n:Nat} {L:List Pl} (h:PtsInv w wr n L) (hb:Below wr.heap.size wr w'):PtsInv w w' n L:=
 ⟨h.net.below hb,zP hb h.c4,zP hb h.c5,zP hb h.c6,h.below.trans (hb.mono h.below.size)⟩
theorem own_slice {w:World} {base:Nat} {e:TypeId} {size:Nat} {v:Value} {n:Nat} {xs:List Value} (h:w.ownsRow base e size v n xs):∃ p cap,v=.slice p n cap∧n≤cap:=by
 rcases h.2 with ⟨rfl,rfl⟩|⟨g,cap,cur,rfl,_,_,hc,_⟩
 ·exact⟨none,0,rfl,Nat.le_refl _⟩
 ·exact⟨_,cap,rfl,hc⟩
theorem points_any (n:Nat) (h1:1≤n) (h2:n≤8) (w:World) (hT:HasTab w):Calls Tryz.prog 83 #[.int .i64 n] w fun e w'=>e=.returned (.pointer (some ⟨w.heap.size+1,0,none⟩))∧NetAt w' (w.heap.size+1) n (w.heap.size+2) (nodesL n)∧
   (w'.cell? ⟨w.heap.size+1,4,none⟩=some (.slice none 0 0)∧w'.cell? ⟨w.heap.size+1,5,none⟩=some (.slice none 0 0)∧w'.cell? ⟨w.heap.size+1,6,none⟩=some (.slice none 0 0))∧Below w.heap.size w w':=by
 have hlt:=hT.lt
 have hne0:¬ 1=w.heap.size:=by omega
 have hne1:¬ 1=w.heap.size+1:=by omega
 have hne2:¬ 1=w.heap.size+2:=by omega
 have hne3:¬ 1=w.heap.size+3:=by omega
 have hne4:¬ 1=w.heap.size+4:=by omega
 have hnz0:¬ w.heap.size=0:=by omega
 have hpz0:0 < w.heap.size:=by omega
 have hpz1:1≤w.heap.size:=by omega
 have hpz2:1≤w.heap.size:=by omega
 have hnz1:¬ w.heap.size=1:=by omega
 have hmm:=@run_makeMap Tryz.prog
 have hn0:((n:Int) == 0)=false:=by rw[beq_eq_false_iff_ne];omega
 have hq:(840:Int).tdiv n=((hh n:Nat):Int):=by
  rw[Int.tdiv_eq_ediv_of_nonneg (by omega)];rfl
 have hn:=hh_mul h1 h2
 have hh1:hh n≤840:=Nat.div_le_self _ _
 go_enter Tryz.func83,Tryz.ntmps83
 go_wp2
 refine absW (F:=fun w'=>PtsInv w w' n (sofar n 0 0 0)) ?_ ?_
 ·rw[sofar_start]
  refine⟨⟨(by simp[zO,zJ,zQ]),(by simp[zO,zJ,zQ]),fun j=>by simp[RX.frozen_alloc],by simp,.slice none 0 0,w.heap.size,(by simp[zO,zJ,zQ]),(by simp[zO,zJ,zQ]),World.ownsRow_nil _ _ _ _,(IdxMap.made w).alloc _,rfl⟩,(by simp[zO,zJ,zQ]),(by simp[zO,zJ,zQ]),(by simp[zO,zJ,zQ]),?_⟩
  exact ((zBr _ _).alloc (Nat.le_refl _) _).alloc (by simp) _
 intro W1 hI1
 clear hmm
 go_loopw [16] (fun i wr=>∃ f:Nat,f≤20∧i=.int .i64 f∧PtsInv w wr n (sofar n f 0 0)) (fun i _=>20-(intOf i).toNat)
 case atStart=>exact⟨0,by omega,rfl,hI1⟩
 case round=>
  obtain⟨f,hf,rfl,hI⟩:=hrel
  by_cases hltf:f < 20
  ·have hdf:decide ((f:Int) < 20)=true:=zDt (by omega)
   go_wp2
   go_loopw [5] (fun i wr=>∃ a:Nat,a≤n+1∧i=.int .i64 a∧PtsInv w wr n (sofar n f a 0)) (fun i _=>n+1-(intOf i).toNat)
   case atStart=>exact⟨0,by omega,rfl,hI⟩
   case round=>
    clear hI
    obtain⟨a,ha,rfl,hI⟩:=hrel
    by_cases hlta:a≤n
    ·go_wp2
     go_loopw [6] (fun i wr=>∃ b:Nat,b≤n+1-a∧i=.int .i64 b∧PtsInv w wr n (sofar n f a b)) (fun i _=>n+1-a-(intOf i).toNat)
     case atStart=>exact⟨0,by omega,rfl,hI⟩
     case round=>
      clear hI
      obtain⟨b,hb,rfl,hI⟩:=hrel
      by_cases hltb:a+b≤n
      ·obtain⟨x,hx⟩:∃ x,x=a*hh n:=⟨_,rfl⟩
       obtain⟨y,hy⟩:∃ y,y=b*hh n:=⟨_,rfl⟩
       obtain⟨z,hz⟩:∃ z,z=(n-a-b)*hh n:=⟨_,rfl⟩
       have hlat:lat n f a b=⟨f,x,y,z⟩:=by rw[hx,hy,hz];rfl
       have hOk:Pl.Ok ⟨f,x,y,z⟩:=hlat ▸ lat_ok hn hltf hltb
       have hxyz:x+y+z=840:=hOk.s
       have ex:(a:Int)*((hh n:Nat):Int)=x:=by rw[hx,Int.natCast_mul]
       have ey:(b:Int)*((hh n:Nat):Int)=y:=by rw[hy,Int.natCast_mul]
       have ez:((n:Int)-a-b)*((hh n:Nat):Int)=z:=by rw[hz,Int.natCast_mul,Int.natCast_sub (by omega),Int.natCast_sub (by omega)]
       have hch:=hI.net.ch
       have hsz:=hI.lt
       have HL:=zN hlat
       clear hx hy hz hlat
       go_wp2
       refine RX.region RX.fN (fun w'=>w'.cell? ⟨w.heap.size+1,1,none⟩=some (.int .i64 ((hh n:Nat):Int))) (by kernel_rfl) (by kernel_rfl) (hch) (fun OPS HO QR hQR=>?_)
       repeat (refine zeX (fun R hR=>?_);(first|refine zaX (by first|rfl|(rw[HO.out];rfl)) (by simp only[zA,zB,zC,zD];rfl) ?_|refine zbX (by first|rfl|(rw[HO.out];rfl)) rfl (by first|exact .inl rfl|exact .inr rfl) (by simp only[zE,zF,zG,zH];rfl) (by simp only[zA,zB,zC,zD];rfl) ?_|refine zcX (by first|rfl|(rw[HO.out];rfl)) rfl rfl (by simp only[zE,zF,zG,zH];rfl) (by simp only[zA,zB,zC,zD];rfl) ?_|(refine zdX (by first|rfl|(rw[HO.out];rfl)) rfl rfl rfl ?_;apply zEx;apply zEx;refine⟨fun w' hS K hK=>?_,?_,?_⟩;(focus (have hS1:=hS;go_wp2;exact hK _ _ (by simp only[zl,zG,zH];first|exact zf (by omega)|exact zg (by omega)|exact zh (by omega)|exact zi (by omega)|exact zj (by omega)|exact zk (by omega)|exact RX.bneB _|rfl) rfl));(focus (simp only[zA,zB,zC,zD];rfl))));refine hR _ _ ?_;clear hR R)
       refine zeX (fun R hR=>?_)
       refine zgX (by first|rfl|(rw[HO.out];rfl)) rfl (fun K hK=>?_)
       go_wp2
       refine⟨(by (try have hLt:=zM _ _ hch);(try simp only at hLt);(repeat first|rw[zO]|rw[zK _ _ _ _ (by first|(simp<;>omega)|omega)]|rw[zJ,if_neg (by first|(simp<;>omega)|omega)]);first|exact hch|(rw[zJ,if_pos (by first|(simp;done)|omega)];exact hch)),hR _ _ ?_⟩;clear hR R
       refine zeX (fun R hR=>?_)
       refine zgX (by first|rfl|(rw[HO.out];rfl)) rfl (fun K hK=>?_)
       go_wp2
       refine⟨(by (try have hLt:=zM _ _ hch);(try simp only at hLt);(repeat first|rw[zO]|rw[zK _ _ _ _ (by first|(simp<;>omega)|omega)]|rw[zJ,if_neg (by first|(simp<;>omega)|omega)]);first|exact hch|(rw[zJ,if_pos (by first|(simp;done)|omega)];exact hch)),hR _ _ ?_⟩;clear hR R
       refine RX.wpL_nil (hQR _ _ ((by (try have hLt:=zM _ _ hch);(try simp only at hLt);(repeat first|rw[zO]|rw[zK _ _ _ _ (by first|(simp<;>omega)|omega)]|rw[zJ,if_neg (by first|(simp<;>omega)|omega)]);first|exact hch|(rw[zJ,if_pos (by first|(simp;done)|omega)];exact hch))) ?_);clear hQR QR HO OPS
       go_wp2_with fail
       have hbW:=hI.below
       refine (normal_any ⟨f,x,y,z⟩ hOk _ ?_).mono ?_
       ·exact hT.below (by repeat (first|(with_reducible first|assumption|exact zBr _ _|refine zBs ?_ (by first|omega|(simp<;>omega)) _|refine zBa ?_ (by first|omega|(simp<;>omega)) _|apply zBd)|assumption))
       rintro e w2 ⟨rfl,hb2⟩
       have p0:w2.cell? ⟨wr.heap.size,0,none⟩=some (.int .i64 f):=zP hb2 (by simp[zO,zJ,zQ])
       have p1:w2.cell? ⟨wr.heap.size,1,none⟩=some (.int .i64 x):=zP hb2 (by simp[zO,zJ,zQ])
       have p2:w2.cell? ⟨wr.heap.size,2,none⟩=some (.int .i64 y):=zP hb2 (by simp[zO,zJ,zQ])
       have p3:w2.cell? ⟨wr.heap.size,3,none⟩=some (.int .i64 z):=zP hb2 (by simp[zO,zJ,zQ])
       have hb3:Below wr.heap.size wr w2:=Below.trans (by repeat (first|(with_reducible first|assumption|exact zBr _ _|refine zBs ?_ (by first|omega|(simp<;>omega)) _|refine zBa ?_ (by first|omega|(simp<;>omega)) _|apply zBd)|assumption)) (hb2.mono (by simp))
       have hI2:=hI.next hb3
       obtain⟨v0,HV0⟩:∃ v0,Hid (w2.cell? ⟨w.heap.size+1,2,none⟩=some v0∧∀ k,v0.ownBlock=some k→k < wr.heap.size):=by
        obtain⟨v0,B0,d2,_,hown0,_⟩:=hI.net.nd
        exact⟨v0,zN ⟨zP hb3 d2,fun k hk=>(hown0.lt k hk).2⟩⟩
       have hs2:wr.heap.size < w2.heap.size:=zM w2 _ p0
       clear hb2 hb3 hI hch ex ey ez
       by_cases hN:normal ⟨f,x,y,z⟩=⟨f,x,y,z⟩
       ·rw[hN]
        have HNE:=zN hN
        clear hN
        unfold pv
        go_wp2
        have hI3:=hI2.next ((zBr _ w2).alloc (Nat.le_refl _) (.cells #[.int .i64 f,.int .i64 x,.int .i64 y,.int .i64 z] 41))
        obtain⟨v,B,e2,e3,hown,hix,hBg⟩:=hI3.net.nd
        have hI2own:∀ k,v.ownBlock=some k→k < wr.heap.size:=by
         obtain⟨d2,hk⟩:=HV0.out
         have d3:(w2.alloc (.cells #[.int .i64 f,.int .i64 x,.int .i64 y,.int .i64 z] 41)).cell? ⟨w.heap.size+1,2,none⟩=some v0:=(by (try have hLt:=zM _ _ d2);(try simp only at hLt);(repeat first|rw[zO]|rw[zK _ _ _ _ (by first|(simp<;>omega)|omega)]|rw[zJ,if_neg (by first|(simp<;>omega)|omega)]);first|exact d2|(rw[zJ,if_pos (by first|(simp;done)|omega)];exact d2))
         have:=d3.symm.trans e2
         injection this with this
         subst this
         exact hk
        obtain⟨vp,vc,rfl,hvc⟩:=own_slice hown
        have hnb:some wr.heap.size≠(Value.slice vp (sofar n f a b).length vc).ownBlock:=fun e=>by
         have:=hI2own _ e.symm
         omega
        have hlen:(sofar n f a b).length≤2000:=len_sofar h2 hltf (by omega) (by omega)
        have hnot:(⟨f,x,y,z⟩:Pl) ∉ sofar n f a b:=by rw[←HL.out];exact lat_new h1 (by omega)
        have i0:(w2.alloc (.cells #[.int .i64 f,.int .i64 x,.int .i64 y,.int .i64 z] 41)).cell? ⟨wr.heap.size,0,none⟩=some (.int .i64 f):=(by (try have hLt:=zM _ _ p0);(try simp only at hLt);(repeat first|rw[zO]|rw[zK _ _ _ _ (by first|(simp<;>omega)|omega)]|rw[zJ,if_neg (by first|(simp<;>omega)|omega)]);first|exact p0|(rw[zJ,if_pos (by first|(simp;done)|omega)];exact p0))
        have i1:(w2.alloc (.cells #[.int .i64 f,.int .i64 x,.int .i64 y,.int .i64 z] 41)).cell? ⟨wr.heap.size,1,none⟩=some (.int .i64 x):=(by (try have hLt:=zM _ _ p1);(try simp only at hLt);(repeat first|rw[zO]|rw[zK _ _ _ _ (by first|(simp<;>omega)|omega)]|rw[zJ,if_neg (by first|(simp<;>omega)|omega)]);first|exact p1|(rw[zJ,if_pos (by first|(simp;done)|omega)];exact p1))
        have i2:(w2.alloc (.cells #[.int .i64 f,.int .i64 x,.int .i64 y,.int .i64 z] 41)).cell? ⟨wr.heap.size,2,none⟩=some (.int .i64 y):=(by (try have hLt:=zM _ _ p2);(try simp only at hLt);(repeat first|rw[zO]|rw[zK _ _ _ _ (by first|(simp<;>omega)|omega)]|rw[zJ,if_neg (by first|(simp<;>omega)|omega)]);first|exact p2|(rw[zJ,if_pos (by first|(simp;done)|omega)];exact p2))
        have i3:(w2.alloc (.cells #[.int .i64 f,.int .i64 x,.int .i64 y,.int .i64 z] 41)).cell? ⟨wr.heap.size,3,none⟩=some (.int .i64 z):=(by (try have hLt:=zM _ _ p3);(try simp only at hLt);(repeat first|rw[zO]|rw[zK _ _ _ _ (by first|(simp<;>omega)|omega)]|rw[zJ,if_neg (by first|(simp<;>omega)|omega)]);first|exact p3|(rw[zJ,if_pos (by first|(simp;done)|omega)];exact p3))
        clear p0 p1 p2 p3
        have HS:Hid (PtsInv w w2 n (sofar n f a b)):=zN hI2
        clear hI2
        generalize hLs:sofar n f a b=L at *
        generalize hW3:w2.alloc (.cells #[.int .i64 f,.int .i64 x,.int .i64 y,.int .i64 z] 41)=W3 at *
        refine RY.region RX.fN (fun w'=>w'.cell? ⟨w.heap.size+1,3,none⟩=some (.map (some B))∧w'.cell? ⟨w.heap.size+1,2,none⟩=some (.slice vp L.length vc)∧w'.cell? ⟨wr.heap.size,0,none⟩=some (.int .i64 f)∧w'.cell? ⟨wr.heap.size,1,none⟩=some (.int .i64 x)∧w'.cell? ⟨wr.heap.size,2,none⟩=some (.int .i64 y)∧w'.cell? ⟨wr.heap.size,3,none⟩=some (.int .i64 z)) (by kernel_rfl) (by kernel_rfl) (⟨e3,e2,i0,i1,i2,i3⟩) (fun OPS HO QR hQR=>?_)
        repeat (refine zeY (fun R hR=>?_);(first|refine zaY (by first|rfl|(rw[HO.out];rfl)) (by simp only[zA,zB,zC,zD];rfl) ?_|refine zbY (by first|rfl|(rw[HO.out];rfl)) rfl (by first|exact .inl rfl|exact .inr rfl) (by simp only[zE,zF,zG,zH];rfl) (by simp only[zA,zB,zC,zD];rfl) ?_|refine zcY (by first|rfl|(rw[HO.out];rfl)) rfl rfl (by simp only[zE,zF,zG,zH];rfl) (by simp only[zA,zB,zC,zD];rfl) ?_|(refine zdY (by first|rfl|(rw[HO.out];rfl)) rfl rfl rfl ?_;apply zEx;apply zEx;refine⟨fun w' hS K hK=>?_,?_,?_⟩;(focus (obtain⟨hS1,hS2,hS3,hS4,hS5,hS6⟩:=hS;go_wp2;exact hK _ _ (by simp only[zl,zG,zH];first|exact zf (by omega)|exact zg (by omega)|exact zh (by omega)|exact zi (by omega)|exact zj (by omega)|exact zk (by omega)|exact RX.bneB _|rfl) rfl));(focus (simp only[zA,zB,zC,zD];rfl))));refine hR _ _ ?_;clear hR R)
        refine zeY (fun R hR=>?_)
        refine zgY (by first|rfl|(rw[HO.out];rfl)) rfl (fun K hK=>?_)
        refine wp_mapUpd _ _ _ rfl B L ⟨f,x,y,z⟩ hix.drew (by omega) (Ok.fits hOk) hnot (by simp only[zE,zF,zG,zH]) (by simp only[RX.eval_tmp,List.getD_cons_zero,List.getD_cons_succ];rfl) (by simp only[zE,zF,zG,zH]) (fun w4 hix4 hg4=>?_)
        refine hK _ _ ⟨(by first|exact .inl rfl|exact .inl trivial|trivial),?_⟩;clear hK K;refine RY.at_ (by simp only[RX.put_some,RX.put_none,List.set_cons_zero,List.set_cons_succ];rfl) (hR _ _ ?_);clear hR R
        refine RY.wpL_nil (hQR _ _ ?_);clear hQR QR HO OPS
        have hg34:W3.grownBy w4 (some B):=⟨hg4.os,hg4.tape,hg4.output,hg4.size,hg4.block⟩
        have hB1:B=w.heap.size:=by omega
        have e2':w4.cell? ⟨w.heap.size+1,2,none⟩=some (.slice vp L.length vc):=hg34.cell e2 (by simp;omega)
        have j0:=hg34.cell i0 (by simp;omega)
        have j1:=hg34.cell i1 (by simp;omega)
        have j2:=hg34.cell i2 (by simp;omega)
        have j3:=hg34.cell i3 (by simp;omega)
        have hlt3:w.heap.size+1 < W3.heap.size:=zM _ _ e2
        have hown4:w4.ownsRow (w.heap.size+2) 41 4 (.slice vp L.length vc) L.length (plVals L):=hown.kept hg34 (by
         cases ho:(Value.slice vp L.length vc).ownBlock with
         |none=>exact .inl rfl
         |some k=>have:=(hown.lt k ho).1;exact .inr (by simp;omega))
        go_wp2
        refine RY.region RX.fN (fun w'=>w'.cell? ⟨w.heap.size+1,2,none⟩=some (.slice vp L.length vc)∧w'.cell? ⟨wr.heap.size,0,none⟩=some (.int .i64 f)∧w'.cell? ⟨wr.heap.size,1,none⟩=some (.int .i64 x)∧w'.cell? ⟨wr.heap.size,2,none⟩=some (.int .i64 y)∧w'.cell? ⟨wr.heap.size,3,none⟩=some (.int .i64 z)) (by kernel_rfl) (by kernel_rfl) (⟨e2',j0,j1,j2,j3⟩) (fun OPS HO QR hQR=>?_)
        repeat (refine zeY (fun R hR=>?_);(first|refine zaY (by first|rfl|(rw[HO.out];rfl)) (by simp only[zA,zB,zC,zD];rfl) ?_|refine zbY (by first|rfl|(rw[HO.out];rfl)) rfl (by first|exact .inl rfl|exact .inr rfl) (by simp only[zE,zF,zG,zH];rfl) (by simp only[zA,zB,zC,zD];rfl) ?_|refine zcY (by first|rfl|(rw[HO.out];rfl)) rfl rfl (by simp only[zE,zF,zG,zH];rfl) (by simp only[zA,zB,zC,zD];rfl) ?_|(refine zdY (by first|rfl|(rw[HO.out];rfl)) rfl rfl rfl ?_;apply zEx;apply zEx;refine⟨fun w' hS K hK=>?_,?_,?_⟩;(focus (obtain⟨hS1,hS2,hS3,hS4,hS5⟩:=hS;go_wp2;exact hK _ _ (by simp only[zl,zG,zH];first|exact zf (by omega)|exact zg (by omega)|exact zh (by omega)|exact zi (by omega)|exact zj (by omega)|exact zk (by omega)|exact RX.bneB _|rfl) rfl));(focus (simp only[zA,zB,zC,zD];rfl))));refine hR _ _ ?_;clear hR R)
        refine zeY (fun R hR=>?_)
        refine zgY (by first|rfl|(rw[HO.out];rfl)) rfl (fun K hK=>?_)
        go_wp2
        refine⟨.inr (⟨(by (try have hLt:=zM _ _ e2');(try simp only at hLt);(repeat first|rw[zO]|rw[zK _ _ _ _ (by first|(simp<;>omega)|omega)]|rw[zJ,if_neg (by first|(simp<;>omega)|omega)]);first|exact e2'|(rw[zJ,if_pos (by first|(simp;done)|omega)];exact e2')),(by (try have hLt:=zM _ _ j0);(try simp only at hLt);(repeat first|rw[zO]|rw[zK _ _ _ _ (by first|(simp<;>omega)|omega)]|rw[zJ,if_neg (by first|(simp<;>omega)|omega)]);first|exact j0|(rw[zJ,if_pos (by first|(simp;done)|omega)];exact j0)),(by (try have hLt:=zM _ _ j1);(try simp only at hLt);(repeat first|rw[zO]|rw[zK _ _ _ _ (by first|(simp<;>omega)|omega)]|rw[zJ,if_neg (by first|(simp<;>omega)|omega)]);first|exact j1|(rw[zJ,if_pos (by first|(simp;done)|omega)];exact j1)),(by (try have hLt:=zM _ _ j2);(try simp only at hLt);(repeat first|rw[zO]|rw[zK _ _ _ _ (by first|(simp<;>omega)|omega)]|rw[zJ,if_neg (by first|(simp<;>omega)|omega)]);first|exact j2|(rw[zJ,if_pos (by first|(simp;done)|omega)];exact j2)),(by (try have hLt:=zM _ _ j3);(try simp only at hLt);(repeat first|rw[zO]|rw[zK _ _ _ _ (by first|(simp<;>omega)|omega)]|rw[zJ,if_neg (by first|(simp<;>omega)|omega)]);first|exact j3|(rw[zJ,if_pos (by first|(simp;done)|omega)];exact j3))⟩),hR _ _ ?_⟩;clear hR R
        repeat (refine zeY (fun R hR=>?_);(first|refine zaY (by first|rfl|(rw[HO.out];rfl)) (by simp only[zA,zB,zC,zD];rfl) ?_|refine zbY (by first|rfl|(rw[HO.out];rfl)) rfl (by first|exact .inl rfl|exact .inr rfl) (by simp only[zE,zF,zG,zH];rfl) (by simp only[zA,zB,zC,zD];rfl) ?_|refine zcY (by first|rfl|(rw[HO.out];rfl)) rfl rfl (by simp only[zE,zF,zG,zH];rfl) (by simp only[zA,zB,zC,zD];rfl) ?_|(refine zdY (by first|rfl|(rw[HO.out];rfl)) rfl rfl rfl ?_;apply zEx;apply zEx;refine⟨fun w' hS K hK=>?_,?_,?_⟩;(focus (obtain⟨hS1,hS2,hS3,hS4,hS5⟩:=hS;go_wp2;exact hK _ _ (by simp only[zl,zG,zH];first|exact zf (by omega)|exact zg (by omega)|exact zh (by omega)|exact zi (by omega)|exact zj (by omega)|exact zk (by omega)|exact RX.bneB _|rfl) rfl));(focus (simp only[zA,zB,zC,zD];rfl))));refine hR _ _ ?_;clear hR R)
        refine zeY (fun R hR=>?_)
        refine zgY (by first|rfl|(rw[HO.out];rfl)) rfl (fun K hK=>?_)
        refine RX.wp_app elPl _ _ rfl (w.heap.size+2) _ _ _ ((World.ownsRow.drew hown4).alloc _) (by simp only[zE,zF,zG,zH]) w4.heap.size _ 1 (by simp only[zE,zF,zG,zH]) (heap_alloc_new _ _) rfl (by simp[Value.oneCell']) (by omega) (by omega) (by have:=hg4.size;simp at *;omega) (fun v5 w5 hown5 hb5 hg5 hat5=>?_)
        have hg45:w4.grownBy w5 (Value.slice vp L.length vc).ownBlock:=by
         have h0:w4.grownBy (w4.drew.alloc (.cells #[.int .i64 f,.int .i64 x,.int .i64 y,.int .i64 z] 41)) (Value.slice vp L.length vc).ownBlock:=by
          have:=World.grownBy_alloc w4.drew (.cells #[.int .i64 f,.int .i64 x,.int .i64 y,.int .i64 z] 41) (Value.slice vp L.length vc).ownBlock
          exact⟨this.os,this.tape,this.output,this.size,this.block⟩
         exact h0.trans hg5
        have hlt4:w.heap.size+1 < w4.heap.size:=zM _ _ e2'
        have hb45:Below (w.heap.size+2) w4 w5:=by
         refine⟨hg45.os,hg45.tape,hg45.output,hg45.size,fun k hk=>hg45.block k (by have:=hg4.size;omega) (fun e=>?_)⟩
         have:=(hown.lt k e.symm).1;omega
        have e5:w5.cell? ⟨w.heap.size+1,2,none⟩=some (.slice vp L.length vc):=(hb45.cell (show w.heap.size+1 < w.heap.size+2 by omega)).trans e2'
        have fr3:=(zN (HS.out.next ((zBr _ w2).alloc (Nat.le_refl _) (.cells #[.int .i64 f,.int .i64 x,.int .i64 y,.int .i64 z] 41))))
        rw[hW3] at fr3
        have f5:w5.frozen? ⟨w.heap.size+1,2,none⟩=false:=(hb45.frozen (show w.heap.size+1 < w.heap.size+2 by omega)).trans ((zFb (hg34.block _ hlt3 (by simp;omega))).trans (fr3.out.net.fr 2))
        obtain⟨p5,c5,hv5,_⟩:=own_slice hown5
        subst hv5
        refine hK _ _ ⟨.inr (⟨e5,hg45.cell j0 hnb,hg45.cell j1 hnb,hg45.cell j2 hnb,hg45.cell j3 hnb⟩),?_⟩;clear hK K;refine RY.at_ (by simp only[RX.put_some,RX.put_none,List.set_cons_zero,List.set_cons_succ];rfl) (hR _ _ ?_);clear hR R
        repeat (refine zeY (fun R hR=>?_);(first|refine zaY (by first|rfl|(rw[HO.out];rfl)) (by simp only[zA,zB,zC,zD];rfl) ?_|refine zbY (by first|rfl|(rw[HO.out];rfl)) rfl (by first|exact .inl rfl|exact .inr rfl) (by simp only[zE,zF,zG,zH];rfl) (by simp only[zA,zB,zC,zD];rfl) ?_|refine zcY (by first|rfl|(rw[HO.out];rfl)) rfl rfl (by simp only[zE,zF,zG,zH];rfl) (by simp only[zA,zB,zC,zD];rfl) ?_|(refine zdY (by first|rfl|(rw[HO.out];rfl)) rfl rfl rfl ?_;apply zEx;apply zEx;refine⟨fun w' hS K hK=>?_,?_,?_⟩;(focus (obtain⟨hS1,hS2,hS3,hS4,hS5⟩:=hS;go_wp2;exact hK _ _ (by simp only[zl,zG,zH];first|exact zf (by omega)|exact zg (by omega)|exact zh (by omega)|exact zi (by omega)|exact zj (by omega)|exact zk (by omega)|exact RX.bneB _|rfl) rfl));(focus (simp only[zA,zB,zC,zD];rfl))));refine hR _ _ ?_;clear hR R)
        refine zeY (fun R hR=>?_)
        refine zgY (by first|rfl|(rw[HO.out];rfl)) rfl (fun K hK=>?_)
        go_wp2
        first|refine⟨(by first|exact .inl rfl|exact .inl trivial|trivial),hR _ _ (RY.wpL_nil (hQR _ _ ?_))⟩|refine hR _ _ (RY.wpL_nil (hQR _ _ ?_))|refine hQR _ _ ?_
        (try clear hR);(try clear R);clear hQR QR HO OPS
        go_wp2
        have HF:PtsInv w (w5.setCell ⟨w.heap.size+1,2,none⟩ (.slice p5 (L.length+1) c5)) n (L ++ [⟨f,x,y,z⟩]):=by
         have hI:=fr3.out
         have tr:∀ j u,j≠2→W3.cell? ⟨w.heap.size+1,j,none⟩=some u→(w5.setCell ⟨w.heap.size+1,2,none⟩ (.slice p5 (L.length+1) c5)).cell? ⟨w.heap.size+1,j,none⟩=some u:=fun j u hj h=>by
          rw[zK _ _ _ _ (by first|(simp;done)|(simp;omega)|omega)]
          exact (hb45.cell (show w.heap.size+1 < w.heap.size+2 by omega)).trans (hg34.cell h (by first|(simp;done)|(simp;omega)|omega))
         refine⟨⟨tr 0 _ (by omega) hI.net.cn,tr 1 _ (by omega) hI.net.ch,fun j=>?_,⟨by omega,?_⟩,.slice p5 (L.length+1) c5,B,?_,tr 3 _ (by omega) e3,?_,?_,hBg⟩,tr 4 _ (by omega) hI.c4,tr 5 _ (by omega) hI.c5,tr 6 _ (by omega) hI.c6,?_⟩
         ·rw[World.frozen?_setCell]
          exact (hb45.frozen (show w.heap.size+1 < w.heap.size+2 by omega)).trans ((zFb (hg34.block _ hlt3 (by first|(simp;done)|(simp;omega)|omega))).trans (hI.net.fr j))
         ·have:=hb45.size;rw[show (w5.setCell ⟨w.heap.size+1,2,none⟩ (Value.slice p5 (L.length+1) c5)).heap.size=w5.heap.size by simp[World.setCell]];omega
         ·exact zL _ _ _ (by rw[e5];rfl)
         ·rw[plVals_snoc,List.length_append]
          exact ownsRow_setCell_other hown5 (fun e=>by have h9:w.heap.size+2≤w.heap.size+1:=(hown5.lt _ e).1;omega) _
         ·refine IdxMap.block hix4 ?_
          rw[Below.heap_setCell _ _ _ B (by first|(simp;done)|(simp;omega)|omega)]
          exact hb45.block B (by omega)
         ·refine zBs ?_ (by simp) _
          refine (hI.below.trans ?_).trans (hb45.mono (by omega))
          exact⟨hg34.os,hg34.tape,hg34.output,hg34.size,fun k hk=>hg34.block k (by omega) (by first|(simp;done)|(simp;omega)|omega)⟩
        have HN:isN (lat n f a b)=true:=by rw[HL.out];simp[isN,HNE.out]
        go_roundw
        case rel=>exact⟨b+1,by omega,by go_num,by rw[sofar_yes HN,HL.out,hLs];exact HF⟩
        case measure=>simp[intOf];omega
       ·have hne:¬ (((normal ⟨f,x,y,z⟩).f:Nat):Int)=(f:Int):=fun e=>hN (normal_face hOk (by show (normal ⟨f,x,y,z⟩).f=f;omega))
        have HN:Hid (isN (lat n f a b)=false):=zN (by rw[HL.out];simp[isN,hN])
        clear hN
        unfold pv
        go_wp2
        go_roundw
        case rel=>exact⟨b+1,by omega,by go_num,by rw[sofar_no HN.out];exact hI2.next ((zBr _ w2).alloc (Nat.le_refl _) _)⟩
        case measure=>simp[intOf];omega
      ·have eb:b=n+1-a:=by omega
       rw[eb,sofar_row] at hI
       clear eb
       go_wp2
       go_roundw
       case rel=>exact⟨a+1,by omega,by go_num,hI⟩
       case measure=>simp[intOf];omega
    ·obtain rfl:a=n+1:=by omega
     rw[sofar_face] at hI
     go_wp2
     go_roundw
     case rel=>exact⟨f+1,by omega,by go_num,hI⟩
     case measure=>simp[intOf];omega
  ·obtain rfl:f=20:=by omega
   rw[sofar_end] at hI
   go_wp2
   go_ret
   exact⟨rfl,hI.net,⟨hI.c4,hI.c5,hI.c6⟩,hI.below⟩
theorem wp_look {o:Oper} {a:Act} {w:World} {K:Act→World→Prop} {Q:Exit→Act→World→Prop} (m x:Operand) (ho:o.op=.lookup 110 m x false) (B:Nat) (L:List Pl) (p:Pl) (hI:IdxMap w B L) (hp:Fits p)
  (hm:a.eval m=.map (some B)) (hx:a.eval x=pv p) (h:K (a.put o.dst (.int .i64 (((ix L p).getD 0:Nat):Int))) w):o.wp Tryz.prog a w K Q:=by
 obtain⟨D,hown,hr⟩:=hI
 obtain⟨kp,hkp⟩:=key_pl p hp
 obtain⟨c,hrun,hat,_⟩:=hown.lookup_int lawPl Tryz.underlying110 Tryz.underlying3 (zeroI w) hkp
 have h1:=(hr p kp hp hkp).1
 rw[hat] at h1
 simp at h1
 subst h1
 unfold Oper.wp
 simp[execOp,ho,hm,hx,hrun,Result.andThen]
 exact h
theorem at_any (g n base:Nat) (L:List Pl) (q:Pl) (w:World) (hT:HasTab w) (hN:NetAt w g n base L) (hq:q.Ok) :
  Calls Tryz.prog 120 #[.pointer (some ⟨g,0,none⟩),pv q] w fun e w'=>e=.returned (.int .i64 (((ix L (normal q)).getD 0:Nat):Int))∧Below w.heap.size w w':=by
 have HQ:=zN hq
 have hpv:Hid (pv q=.agg #[.int .i64 q.f,.int .i64 q.a,.int .i64 q.b,.int .i64 q.c]):=zN rfl
 rw[hpv.out]
 go_enter Tryz.func120,Tryz.ntmps120
 go_wp2_with fail
 refine (normal_any q HQ.out _ ?_).mono ?_
 ·exact hT.below (by repeat (first|(with_reducible first|assumption|exact zBr _ _|refine zBs ?_ (by first|omega|(simp<;>omega)) _|refine zBa ?_ (by first|omega|(simp<;>omega)) _|apply zBd)|assumption))
 rintro e w1 ⟨rfl,hb1⟩
 have hb2:Below w.heap.size w w1:=Below.trans (by repeat (first|(with_reducible first|assumption|exact zBr _ _|refine zBs ?_ (by first|omega|(simp<;>omega)) _|refine zBa ?_ (by first|omega|(simp<;>omega)) _|apply zBd)|assumption)) (hb1.mono (by simp))
 have hN1:=hN.below hb2
 have hn:=normal_ok hq
 clear hb1 hN hq
 obtain⟨r,hr⟩:∃ r,r=normal q:=⟨_,rfl⟩
 rw[←hr] at hn ⊢
 have HRQ:=zN hr
 clear hr
 have HR:=zN hn
 clear hn
 unfold pv
 go_wp2
 have hN2:=hN1.below ((zBr _ w1).alloc (Nat.le_refl _) (.cells #[.int .i64 r.f,.int .i64 r.a,.int .i64 r.b,.int .i64 r.c] 41))
 obtain⟨v,B,e2,e3,hown,hix,hBg⟩:=hN2.nd
 have HB:Hid (Below w.heap.size w (w1.alloc (.cells #[.int .i64 r.f,.int .i64 r.a,.int .i64 r.b,.int .i64 r.c] 41))):=zN (hb2.alloc hb2.size _)
 clear hN1 hb2
 refine RX.region RX.fN (fun w'=>w'=(w1.alloc (.cells #[.int .i64 r.f,.int .i64 r.a,.int .i64 r.b,.int .i64 r.c] 41)).drew) (by kernel_rfl) (by kernel_rfl) (rfl) (fun OPS HO QR hQR=>?_)
 repeat (refine zeX (fun R hR=>?_);(first|refine zaX (by first|rfl|(rw[HO.out];rfl)) (by simp only[zA,zB,zC,zD];rfl) ?_|refine zbX (by first|rfl|(rw[HO.out];rfl)) rfl (by first|exact .inl rfl|exact .inr rfl) (by simp only[zE,zF,zG,zH];rfl) (by simp only[zA,zB,zC,zD];rfl) ?_|refine zcX (by first|rfl|(rw[HO.out];rfl)) rfl rfl (by simp only[zE,zF,zG,zH];rfl) (by simp only[zA,zB,zC,zD];rfl) ?_|(refine zdX (by first|rfl|(rw[HO.out];rfl)) rfl rfl rfl ?_;apply zEx;apply zEx;refine⟨fun w' hS K hK=>?_,?_,?_⟩;(focus (subst hS;go_wp2;exact hK _ _ (by simp only[zl,zG,zH];first|exact zf (by omega)|exact zg (by omega)|exact zh (by omega)|exact zi (by omega)|exact zj (by omega)|exact zk (by omega)|exact RX.bneB _|rfl) rfl));(focus (simp only[zA,zB,zC,zD];rfl))));refine hR _ _ ?_;clear hR R)
 refine zeX (fun R hR=>?_)
 refine zgX (by first|rfl|(rw[HO.out];rfl)) rfl (fun K hK=>?_)
 refine wp_look _ _ rfl B L r hix.drew (Ok.fits HR.out) (by simp only[zE,zF,zG,zH]) (by simp only[RX.eval_tmp,List.getD_cons_zero,List.getD_cons_succ];rfl) ?_
 refine hK _ _ ⟨rfl,?_⟩;clear hK K;refine RX.at_ (by simp only[RX.put_some,RX.put_none,List.set_cons_zero,List.set_cons_succ];rfl) (hR _ _ ?_);clear hR R
 repeat (refine zeX (fun R hR=>?_);(first|refine zaX (by first|rfl|(rw[HO.out];rfl)) (by simp only[zA,zB,zC,zD];rfl) ?_|refine zbX (by first|rfl|(rw[HO.out];rfl)) rfl (by first|exact .inl rfl|exact .inr rfl) (by simp only[zE,zF,zG,zH];rfl) (by simp only[zA,zB,zC,zD];rfl) ?_|refine zcX (by first|rfl|(rw[HO.out];rfl)) rfl rfl (by simp only[zE,zF,zG,zH];rfl) (by simp only[zA,zB,zC,zD];rfl) ?_|(refine zdX (by first|rfl|(rw[HO.out];rfl)) rfl rfl rfl ?_;apply zEx;apply zEx;refine⟨fun w' hS K hK=>?_,?_,?_⟩;(focus (subst hS;go_wp2;exact hK _ _ (by simp only[zl,zG,zH];first|exact zf (by omega)|exact zg (by omega)|exact zh (by omega)|exact zi (by omega)|exact zj (by omega)|exact zk (by omega)|exact RX.bneB _|rfl) rfl));(focus (simp only[zA,zB,zC,zD];rfl))));refine hR _ _ ?_;clear hR R)
 refine RX.wpL_nil (hQR _ _ (rfl) ?_);clear hQR QR HO OPS
 go_wp2
 go_ret
 rw[←HRQ.out]
 exact⟨rfl,HB.out.drew⟩
theorem moved_any (p:Pl) (da db dc:Int) (a b c:Nat) (w:World) (ha:(p.a:Int)+da=a) (hb:(p.b:Int)+db=b) (hc:(p.c:Int)+dc=c) (h1:p.a≤2000∧p.b≤2000∧p.c≤2000) (h2:a≤2000∧b≤2000∧c≤2000) :
  Calls Tryz.prog 116 #[pv p,.int .i64 da,.int .i64 db,.int .i64 dc] w fun e w'=>e=.returned (pv ⟨p.f,a,b,c⟩)∧Below w.heap.size w w':=by
 unfold pv
 go_enter Tryz.func116,Tryz.ntmps116
 go_wp2
 refine bodyPost_ret (v:=.agg #[.int .i64 p.f,.int .i64 a,.int .i64 b,.int .i64 c]) ?_ rfl ⟨rfl,?_⟩
 ·simp[results,Tryz.results116,go_sem]
 ·exact (by repeat (first|(with_reducible first|assumption|exact zBr _ _|refine zBs ?_ (by first|omega|(simp<;>omega)) _|refine zBa ?_ (by first|omega|(simp<;>omega)) _|apply zBd)|assumption))
end Go.Proofs.YtednaajanciabaaGreatDoor
