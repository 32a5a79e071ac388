import Derived.Test.YtojkamfabapcoaaGreatDoorKPrec
set_option maxRecDepth 100000
set_option maxHeartbeats 8000000
set_option linter.unusedSimpArgs false
set_option linter.unusedVariables false
namespace Go.Proofs.YtojkamfabapcoaaGreatDoor
open Go.RowKit Go.Grid Go.Maps Go.Sort Go.Shelf
def stepE (sm:Int) (x out:List Int) (e:I2):List Int:=
 (out.set e.1.toNat (out.getD e.1.toNat 0+sm*(x.getD e.1.toNat 0-x.getD e.2.toNat 0))).set e.2.toNat
  ((out.set e.1.toNat (out.getD e.1.toNat 0+sm*(x.getD e.1.toNat 0-x.getD e.2.toNat 0))).getD e.2.toNat 0-sm*(x.getD e.1.toNat 0-x.getD e.2.toNat 0))
def applyTo (sm an:Int) (x:List Int) (D:List I2) (k:Nat):List Int:=(D.take k).foldl (stepE sm x) (x.map (an*·))
def applyL (sm an:Int) (x:List Int) (D:List I2):List Int:=applyTo sm an x D D.length
theorem stepE_len (sm:Int) (x out:List Int) (e:I2):(stepE sm x out e).length=out.length:=by simp[stepE]
theorem applyTo_succ {sm an:Int} {x:List Int} {D:List I2} {k:Nat} (hk:k < D.length):applyTo sm an x D (k+1)=stepE sm x (applyTo sm an x D k) D[k]:=by
 unfold applyTo
 rw[List.take_succ_eq_append_getElem hk,List.foldl_append];rfl
theorem applyTo_len (sm an:Int) (x:List Int) (D:List I2):∀ k,k≤D.length→(applyTo sm an x D k).length=x.length
 |0,_=>by simp[applyTo]
 |k+1,h=>by rw[applyTo_succ (by omega),stepE_len,applyTo_len sm an x D k (by omega)]
def Bd (B:Int) (zs:List Int):Prop:=∀ y∈zs,-B≤y∧y≤B
theorem Bd.get {B:Int} {zs:List Int} (h:Bd B zs) (hB:0≤B) (i:Nat):-B≤zs.getD i 0∧zs.getD i 0≤B:=by
 by_cases hi:i < zs.length
 ·rw[show zs.getD i 0=zs[i] by simp[List.getD,List.getElem?_eq_getElem hi]]
  exact h _ (List.getElem_mem _)
 ·rw[show zs.getD i 0=0 by simp[List.getD,List.getElem?_eq_none (Nat.le_of_not_lt hi)]];omega
theorem Bd.set {B:Int} {zs:List Int} (h:Bd B zs) (i:Nat) {v:Int} (hv:-B≤v∧v≤B):Bd B (zs.set i v):=by
 intro y hy
 rcases List.mem_or_eq_of_mem_set hy with hy|rfl
 ·exact h y hy
 ·exact hv
theorem Bd.mono {B B':Int} {zs:List Int} (h:Bd B zs) (hB:B≤B'):Bd B' zs:=fun y hy=>by have:=h y hy;omega
theorem mul_bd {s d:Int} (h1:0≤s) (h2:s≤1000000) (h3:-2097152≤d) (h4:d≤2097152):-2097152000000≤s*d∧s*d≤2097152000000:=by
 by_cases hd:0≤d
 ·have a:=Int.mul_le_mul h2 h4 hd (by omega)
  have:=Int.mul_nonneg h1 hd
  omega
 ·have c:=Int.mul_le_mul h2 (show -d≤2097152 by omega) (by omega) (by omega)
  have e:s * -d=-(s*d):=Int.mul_neg s d
  have f:=Int.mul_nonneg h1 (show 0≤-d by omega)
  omega
theorem Bd.step {B sm:Int} {x out:List Int} {e:I2} (hs:0≤sm∧sm≤1000000) (hx:Small x) (hB:0≤B) (h:Bd B out):Bd (B+4194304000000) (stepE sm x out e):=by
 have hx':Bd 1048576 x:=hx
 have x1:=hx'.get (by omega) e.1.toNat
 have x2:=hx'.get (by omega) e.2.toNat
 have hd:=mul_bd hs.1 hs.2 (show -2097152≤x.getD e.1.toNat 0-x.getD e.2.toNat 0 by omega) (by omega)
 unfold stepE
 generalize sm*(x.getD e.1.toNat 0-x.getD e.2.toNat 0)=d at *
 have o1:=h.get hB e.1.toNat
 have h1:Bd (B+2097152000000) (out.set e.1.toNat (out.getD e.1.toNat 0+d)):=(h.mono (by omega)).set _ (by omega)
 have o2:=h1.get (by omega) e.2.toNat
 exact (h1.mono (by omega)).set _ (by omega)
theorem applyTo_bd {sm an:Int} {x:List Int} {D:List I2} (hs:0≤sm∧sm≤1000000) (ha:1≤an∧an≤1000000) (hx:Small x):∀ k:Nat,k≤D.length→Bd (1048576000000+(k:Int)*4194304000000) (applyTo sm an x D k)
 |0,_=>by
  intro y hy
  simp only[applyTo,List.take_zero,List.foldl_nil,List.mem_map] at hy
  obtain⟨v,hv,rfl⟩:=hy
  have h1:=hx v hv
  have h2:=mul_bd (s:=an) (d:=v) (by omega) ha.2 (by omega) (by omega)
  have:an*v≤1048576000000∧-1048576000000≤an*v:=by
   constructor
   ·by_cases h0:0≤v
    ·have:=Int.mul_le_mul ha.2 h1.2 h0 (by omega);omega
    ·have:=Int.mul_nonneg (show 0≤an by omega) (show 0≤-v by omega);have e:=Int.mul_neg an v;omega
   ·by_cases h0:0≤v
    ·have:=Int.mul_nonneg (show 0≤an by omega) h0;omega
    ·have:=Int.mul_le_mul ha.2 (show -v≤1048576 by omega) (by omega) (by omega);have e:=Int.mul_neg an v;omega
  omega
 |k+1,h=>by
  rw[applyTo_succ (by omega)]
  have h0:=applyTo_bd (D:=D) hs ha hx k (by omega)
  have h1:=h0.step (e:=D[k]) hs hx (by omega)
  refine h1.mono ?_
  have:((k+1:Nat):Int)=(k:Int)+1:=by omega
  rw[this,Int.add_mul];omega
def fillTo (an:Int) (x:List Int) (k:Nat):List Int:=(x.take k).map (an*·) ++ List.replicate (x.length-k) 0
theorem fillTo_len (an:Int) (x:List Int) (k:Nat) (h:k≤x.length):(fillTo an x k).length=x.length:=by simp[fillTo];omega
theorem fillTo_zero (an:Int) (x:List Int):fillTo an x 0=List.replicate x.length 0:=by simp[fillTo]
theorem fillTo_end (an:Int) (x:List Int):fillTo an x x.length=x.map (an*·):=by simp[fillTo]
theorem fillTo_succ {an:Int} {x:List Int} {k:Nat} (hk:k < x.length):(fillTo an x k).set k (an*x[k])=fillTo an x (k+1):=by
 unfold fillTo
 have hl:((x.take k).map (an*·)).length=k:=by simp;omega
 rw[List.set_append_right _ _ (by omega),hl,Nat.sub_self,show x.length-k=(x.length-(k+1))+1 by omega,List.replicate_succ,List.set_cons_zero,List.take_succ_eq_append_getElem hk,List.map_append,List.append_assoc]
 rfl
theorem IntsAt.set {w:World} {b o:Nat} {zs:List Int} (h:IntsAt w b o zs) (i:Nat) (v:Int):IntsAt (w.setCell ⟨b,o+i,none⟩ (.int .i64 v)) b o (zs.set i v):=by
 intro j hj
 have hj':j < zs.length:=by simpa using hj
 rw[World.frozen?_setCell]
 refine⟨?_,(h j hj').2⟩
 by_cases hij:i=j
 ·subst hij
  rw[zL _ _ _ (by rw[(h i hj').1];rfl)];simp
 ·rw[zK _ _ _ _ (by first|(simp;done)|(simp;omega)),(h j hj').1,List.getElem_set_ne hij]
theorem IntsAt.made (w:World) (n:Nat):IntsAt (w.alloc (.cells (madeCells #[.int .i64 0] n) 3)) w.heap.size 0 (List.replicate n 0):=by
 intro j hj
 have h:=World.rowIs_made w (.int .i64 0) n 3
 rw[Nat.zero_add]
 exact⟨by rw[h.cell (by simpa using hj)];simp,h.frozen j⟩
theorem apply_no (f s a:Int) (p:Option Addr) (zs:List Int) (cap:Nat) (w:World) (hV:VecAt w p zs) (hl:zs.length≤1000000000) (h:¬ VecOk f s a zs) :
  Calls Tryz.prog 20 #[prv f s a,.slice p zs.length cap] w fun e w'=>e=.returned (.tuple #[.slice none 0 0,.int .i64 1])∧Below w.heap.size w w':=by
 have hpv:Hid (prv f s a=.agg #[.int .i64 f,.int .i64 s,.int .i64 a]):=zN rfl
 have hE:vecErr f s a zs=1:=if_neg h
 rw[hpv.out]
 go_enter Tryz.func20,Tryz.ntmps20
 go_wp2_with fail
 refine (vector_any f s a p zs cap _ ?_ hl).mono ?_
 ·exact hV.below (by repeat (first|(with_reducible first|assumption|exact zBr _ _|refine zBs ?_ (by first|omega|(simp<;>omega)) _|refine zBa ?_ (by first|omega|(simp<;>omega)) _|apply zBd)|assumption))
 rintro e w1 ⟨rfl,hb1⟩
 rw[hE]
 have hB:Below w.heap.size w w1:=Below.trans (by repeat (first|(with_reducible first|assumption|exact zBr _ _|refine zBs ?_ (by first|omega|(simp<;>omega)) _|refine zBa ?_ (by first|omega|(simp<;>omega)) _|apply zBd)|assumption)) (hb1.mono (by simp))
 clear hb1
 go_wp2
 go_ret2
 exact⟨rfl,hB⟩
theorem apply_ok (f:Nat) (s a:Int) (p:Option Addr) (zs:List Int) (cap:Nat) (w:World) (hT:HasTab w) (hV:VecAt w p zs) (hok:VecOk f s a zs) :
  Calls Tryz.prog 20 #[prv f s a,.slice p zs.length cap] w fun e w'=>∃ N,e=.returned (.tuple #[.slice (some ⟨N,0,none⟩) zs.length zs.length,.int .i64 0])∧IntsAt w' N 0 (applyL s a zs (edgesL f))∧w.heap.size≤N∧Below w.heap.size w w':=by
 have hpv:Hid (prv f s a=.agg #[.int .i64 f,.int .i64 s,.int .i64 a]):=zN rfl
 have hE:vecErr f s a zs=0:=if_pos hok
 obtain⟨⟨hf1,hf8,hs0,hs1,ha0,ha1⟩,hlen,hsm⟩:=hok
 have hl:zs.length≤1000:=by
  have h1:0≤10*(f:Int)*f:=Int.mul_nonneg (by omega) (by omega)
  have h2:=Int.mul_le_mul (show 10*(f:Int)≤80 by omega) hf8 (by omega) (by omega)
  omega
 have h12:12≤zs.length:=by
  have h2:=Int.mul_le_mul (show 10≤10*(f:Int) by omega) hf1 (by omega) (by omega)
  omega
 have HB:=zN (And.intro hs0 (And.intro hs1 (And.intro ha0 (And.intro ha1 (And.intro hsm hlen)))))
 rw[hpv.out]
 have hM:((nodesL f).length:Int)=(zs.length:Int):=by
  rw[nodes_len (by omega) (by omega),hlen];simp
 have hDin:=edges_in (n:=f) (by omega) (by omega)
 rw[hM] at hDin
 have hDl:=edges_len (n:=f) (by omega)
 obtain⟨bx,ox,rfl,hbx,hcx⟩:=hV.cell (by omega)
 have HX:=zN hcx
 clear hcx hM hlen
 have hmk:=run_make_row' (P:=Tryz.prog) 25 3 (.int .i64 0) 8 Tryz.underlying25 (by kernel_rfl) rfl .i64 .i64 zs.length (by omega) (by omega)
 go_enter Tryz.func20,Tryz.ntmps20
 go_wp2_with fail
 refine (vector_any f s a (some ⟨bx,ox,none⟩) zs cap _ ?_ (by omega)).mono ?_
 ·exact hV.below (by repeat (first|(with_reducible first|assumption|exact zBr _ _|refine zBs ?_ (by first|omega|(simp<;>omega)) _|refine zBa ?_ (by first|omega|(simp<;>omega)) _|apply zBd)|assumption))
 rintro e w1 ⟨rfl,hb1⟩
 rw[hE]
 have hB:Below w.heap.size w w1:=Below.trans (by repeat (first|(with_reducible first|assumption|exact zBr _ _|refine zBs ?_ (by first|omega|(simp<;>omega)) _|refine zBa ?_ (by first|omega|(simp<;>omega)) _|apply zBd)|assumption)) (hb1.mono (by simp))
 have c0:w1.cell? ⟨w.heap.size,0,none⟩=some (.int .i64 f):=zP hb1 (by simp[zO,zJ,zQ])
 have c1:w1.cell? ⟨w.heap.size,1,none⟩=some (.int .i64 s):=zP hb1 (by simp[zO,zJ,zQ])
 have c2:w1.cell? ⟨w.heap.size,2,none⟩=some (.int .i64 a):=zP hb1 (by simp[zO,zJ,zQ])
 clear hb1 hE
 go_wp2_with fail
 refine (edges_any f (by omega) (by omega) w1 (hT.below hB)).mono ?_
 rintro e w2 ⟨b5,k5,rfl,hk5,hP,hb5,hb2⟩
 have d1:=zP hb2 c1
 have d2:=zP hb2 c2
 have hB2:Below w.heap.size w w2:=hB.trans (hb2.mono hB.size)
 have hs1:=hB.size
 have hs2:=hb2.size
 have hbl:w.heap.size < w2.heap.size:=zM _ _ d1
 obtain⟨D,hD⟩:∃ D,D=edgesL f:=⟨_,rfl⟩
 rw[←hD] at hP hk5 hDin hDl ⊢
 have HDin:=zN hDin
 have HDe:=zN hD
 have hb5l:0 < D.length→b5 < w2.heap.size:=fun h=>zM _ _ (hP.c0 0 h)
 have HPD:=zN hP
 clear hb2 hB c0 c1 c2 hV hDin hD hP
 go_wp2
 obtain⟨N,hN⟩:∃ N,N=w2.heap.size:=⟨_,rfl⟩
 rw[←hN]
 refine absW (F:=fun w'=>IntsAt w' N 0 (fillTo a zs 0)∧w2.grownBy w' (some N)) ⟨?_,?_⟩ ?_
 ·rw[fillTo_zero,hN];exact IntsAt.made w2 zs.length
 ·exact World.grownBy_alloc _ _ _
 rintro W3 ⟨hI3,hg3⟩
 have hNl:w2.heap.size≤N:=by omega
 have HN:=zN hN
 clear hN hmk
 have hbxN:bx≠N:=by omega
 go_loopw [35] (fun i wr=>∃ k:Nat,k≤zs.length∧i=.int .i64 k∧IntsAt wr N 0 (fillTo a zs k)∧w2.grownBy wr (some N)) (fun i _=>zs.length-(intOf i).toNat)
 case atStart=>exact⟨0,by omega,rfl,hI3,hg3⟩
 case round=>
  clear hI3 hg3
  obtain⟨k,hk,rfl,hI,hg⟩:=hrel
  by_cases hlt:k < zs.length
  ·have hdk:decide ((k:Int) < (zs.length:Int))=true:=zDt (by omega)
   have xk:=hg.cell (zP hB2 (HX.out k hlt)) (by simp;exact hbxN)
   have m2:=hg.cell d2 (by simp;omega)
   have hfl:=fillTo_len a zs k (by omega)
   obtain⟨ok1,ok2⟩:=hI k (by omega)
   rw[Nat.zero_add] at ok1 ok2
   obtain⟨u,hu⟩:∃ u,u=(fillTo a zs k)[k]'(by omega):=⟨_,rfl⟩
   rw[←hu] at ok1
   obtain⟨x,hx⟩:∃ x,x=zs[k]:=⟨_,rfl⟩
   rw[←hx] at xk
   obtain⟨q1,q2,q3,q4,q5,q6⟩:=HB.out
   have hxr:=q5 zs[k] (List.getElem_mem _)
   rw[←hx] at hxr
   have hmb:=mul_bd (s:=a) (d:=x) (by omega) q4 (by omega) (by omega)
   obtain⟨y,hy⟩:∃ y,a*x=y:=⟨_,rfl⟩
   have HY:Hid (fillTo a zs (k+1)=(fillTo a zs k).set k y):=zN (by rw[←fillTo_succ hlt,←hx,hy])
   rw[hy] at hmb
   have HI:=zN hI
   clear hu hx hI hxr q5
   go_wp2
   go_roundw
   case rel=>exact⟨k+1,by omega,by go_num,by rw[HY.out];have:=HI.out.set k y;rwa[Nat.zero_add] at this,hg.trans (grownBy_setCell _ _ _ _)⟩
   case measure=>simp[intOf];omega
  ·obtain rfl:k=zs.length:=by omega
   rw[fillTo_end] at hI
   change IntsAt wr N 0 (applyTo s a zs D 0) at hI
   have HI:=zN hI
   clear hI
   go_wp2
   go_loopw [50] (fun i wr=>∃ k:Nat,k≤D.length∧i=.int .i64 k∧Hid (IntsAt wr N 0 (applyTo s a zs D k))∧w2.grownBy wr (some N)) (fun i _=>D.length-(intOf i).toNat)
   case atStart=>exact⟨0,by omega,rfl,HI,hg⟩
   case round=>
    clear HI hg
    obtain⟨k,hk,rfl,HI,hg⟩:=hrel
    by_cases hlt:k < D.length
    ·have hdk:decide ((k:Int) < (D.length:Int))=true:=zDt (by omega)
     obtain⟨q1,q2,q3,q4,q5,q6⟩:=HB.out
     have hbd:=applyTo_bd (D:=D) ⟨q1,q2⟩ ⟨q3,q4⟩ q5 k hk
     have hb5n:=hb5l (by omega)
     have x0:=hg.cell (HPD.out.c0 k hlt) (by simp;omega)
     have x1:=hg.cell (HPD.out.c1 k hlt) (by simp;omega)
     obtain⟨c,hc⟩:∃ c,c=D[k]:=⟨_,rfl⟩
     obtain⟨g1,g2,g3,g4⟩:=HDin.out D[k] (List.getElem_mem _)
     rw[←hc] at x0 x1 g1 g2 g3 g4
     obtain⟨cA,cB'⟩:=c
     dsimp only at x0 x1 g1 g2 g3 g4
     obtain⟨ia,rfl⟩:∃ ia:Nat,cA=(ia:Int):=⟨cA.toNat,by omega⟩
     obtain⟨ib,rfl⟩:∃ ib:Nat,cB'=(ib:Int):=⟨cB'.toNat,by omega⟩
     have hia:ia < zs.length:=by omega
     have hib:ib < zs.length:=by omega
     have xa:=hg.cell (zP hB2 (HX.out ia hia)) (by simp;exact hbxN)
     have xb:=hg.cell (zP hB2 (HX.out ib hib)) (by simp;exact hbxN)
     have m1:=hg.cell d1 (by simp;omega)
     have hol:=applyTo_len s a zs D k hk
     have HSucc:Hid (applyTo s a zs D (k+1)=stepE s zs (applyTo s a zs D k) ((ia:Int),(ib:Int))):=zN (by rw[applyTo_succ hlt,←hc])
     obtain⟨o,ho⟩:∃ o,o=applyTo s a zs D k:=⟨_,rfl⟩
     rw[←ho] at hbd hol HI HSucc
     have hza:=(show Bd 1048576 zs from q5) zs[ia] (List.getElem_mem _)
     have hzb:=(show Bd 1048576 zs from q5) zs[ib] (List.getElem_mem _)
     obtain⟨za,hzae⟩:∃ z,z=zs[ia]:=⟨_,rfl⟩
     obtain⟨zb,hzbe⟩:∃ z,z=zs[ib]:=⟨_,rfl⟩
     rw[←hzae] at xa hza
     rw[←hzbe] at xb hzb
     have hmb:=mul_bd (s:=s) (d:=za-zb) q1 q2 (by omega) (by omega)
     obtain⟨d,hd⟩:∃ d,s*(za-zb)=d:=⟨_,rfl⟩
     rw[hd] at hmb
     have hoa:=hbd o[ia] (List.getElem_mem (by omega))
     obtain⟨ok1,ok2⟩:=HI.out ia (by omega)
     rw[Nat.zero_add] at ok1 ok2
     obtain⟨oa,hoae⟩:∃ z,z=o[ia]'(by omega):=⟨_,rfl⟩
     rw[←hoae] at ok1 hoa
     obtain⟨u,hu⟩:∃ u,oa+d=u:=⟨_,rfl⟩
     have hI1:IntsAt (wr.setCell ⟨N,ia,none⟩ (.int .i64 u)) N 0 (o.set ia u):=by have:=HI.out.set ia u;rwa[Nat.zero_add] at this
     obtain⟨pk1,pk2⟩:=hI1 ib (by simp;omega)
     rw[Nat.zero_add] at pk1 pk2
     obtain⟨ob,hobe⟩:∃ z,z=(o.set ia u)[ib]'(by simp;omega):=⟨_,rfl⟩
     rw[←hobe] at pk1
     have hkk:(k:Int)≤15000:=by omega
     have hob:-70000000000000000≤ob∧ob≤70000000000000000:=by
      have h9:Bd 70000000000000000 (o.set ia u):=(hbd.mono (by omega)).set _ (by omega)
      rw[hobe];exact h9 _ (List.getElem_mem _)
     have hoa2:-70000000000000000≤oa∧oa≤70000000000000000:=by omega
     obtain⟨v,hv⟩:∃ v,ob-d=v:=⟨_,rfl⟩
     have HI2:Hid (IntsAt ((wr.setCell ⟨N,ia,none⟩ (.int .i64 u)).setCell ⟨N,ib,none⟩ (.int .i64 v)) N 0 (applyTo s a zs D (k+1))):=zN (by
      have h9:=hI1.set ib v
      rw[Nat.zero_add] at h9
      rw[HSucc.out]
      unfold stepE
      simp only[Int.toNat_natCast]
      rw[show zs.getD ia 0=za by rw[hzae];simp[List.getD,List.getElem?_eq_getElem hia],show zs.getD ib 0=zb by rw[hzbe];simp[List.getD,List.getElem?_eq_getElem hib],hd,
       show o.getD ia 0=oa by rw[hoae];simp[List.getD,List.getElem?_eq_getElem (show ia < o.length by omega)],hu,
       show (o.set ia u).getD ib 0=ob by rw[hobe];simp[List.getD,List.getElem?_eq_getElem (show ib < (o.set ia u).length by simp;omega)],hv]
      exact h9)
     have hNw:N < wr.heap.size:=zM _ _ ok1
     have hsw:=hg.size
     clear hc hbd HSucc ho HI hI1 hzae hzbe hoae hobe q5 g1 g2 g3 g4 hoa
     have l1:bx < wr.heap.size:=by omega
     have l2:w.heap.size < wr.heap.size:=by omega
     have l3:¬ (N=wr.heap.size):=by omega
     have l4:¬ (bx=wr.heap.size):=by omega
     have l5:¬ (w.heap.size=wr.heap.size):=by omega
     go_wp2
     refine RX.region RX.fN (fun w'=>w'=_) (by kernel_rfl) (by kernel_rfl) rfl (fun OPS HO QR hQR=>?_)
     repeat (refine zeX (fun R hR=>?_);(first|refine zaX (by first|rfl|(rw[HO.out];rfl)) (by simp only[zA,zB,zC,zD];rfl) ?_|refine zbX (by first|rfl|(rw[HO.out];rfl)) rfl (by first|exact .inl rfl|exact .inr rfl) (by simp only[zE,zF,zG,zH];rfl) (by simp only[zA,zB,zC,zD];rfl) ?_|refine zcX (by first|rfl|(rw[HO.out];rfl)) rfl rfl (by simp only[zE,zF,zG,zH];rfl) (by simp only[zA,zB,zC,zD];rfl) ?_|(refine zdX (by first|rfl|(rw[HO.out];rfl)) rfl rfl rfl ?_;apply zEx;apply zEx;refine⟨fun w' hS K hK=>?_,?_,?_⟩;(focus (subst hS;go_wp2;exact hK _ _ (by simp only[zl,zG,zH];first|exact zf (by omega)|exact zg (by omega)|exact zh (by omega)|exact zi (by omega)|exact zj (by omega)|exact zk (by omega)|exact RX.bneB _|rfl) rfl));(focus (simp only[zA,zB,zC,zD];rfl))));refine hR _ _ ?_;clear hR R)
     refine RX.wpL_nil (hQR _ _ rfl ?_);clear hQR QR HO OPS
     go_wp2
     go_roundw
     case rel=>exact⟨k+1,by omega,by go_num,zN (HI2.out.block (heap_alloc_old _ _ (by simp[World.setCell];exact hNw))),grown_drew (((hg.trans (grownBy_setCell _ _ _ _)).trans (grownBy_setCell _ _ _ _)).trans (World.grownBy_alloc _ _ _))⟩
     case measure=>simp[intOf];omega
    ·obtain rfl:k=D.length:=by omega
     go_wp2
     go_ret2
     refine⟨N,rfl,by rw[←HDe.out];exact HI.out,by omega,?_⟩
     exact hB2.grown hg (by omega) (fun k hk=>by injection hk with hk;omega)
end Go.Proofs.YtojkamfabapcoaaGreatDoor
