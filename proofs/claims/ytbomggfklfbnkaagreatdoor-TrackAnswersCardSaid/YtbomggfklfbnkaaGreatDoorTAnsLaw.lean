import Derived.Test.YtbomggfklfbnkaaGreatDoorKRChn
import Derived.Test.YtbomggfklfbnkaaGreatDoorKOpenR
import Derived.Test.YtbomggfklfbnkaaGreatDoorKOrd
set_option maxRecDepth 100000
set_option maxHeartbeats 8000000
set_option linter.unusedSimpArgs false
set_option linter.unusedVariables false
namespace Go.Proofs.YtbomggfklfbnkaaGreatDoor
open Go.RowKit Go.Grid Go.Maps Go.Sort Go.Shelf Go.Chain
theorem chL_len {n:Int} {l:List Rep}:(chL n l).length≤l.length:=by
 unfold chL
 split
 ·exact chain_len _ _
 ·simp
theorem suL_len {n:Int} {l:List Rep}:(suL n l).length≤l.length:=by
 unfold suL
 split
 ·exact (rsOf l).susp_len _
 ·simp
structure ZOk (w:World) (p:Option Addr) (l:List Rep):Prop where
 v:VecR w p l
 len:l.length≤30
 nm:∀ r∈l,r.name.size≤maxLen
 rd:∀ r∈l,RdOk r
 lt:∀ a,p=some a→0 < l.length→a.block < w.heap.size
theorem ZOk.below {w w':World} {p:Option Addr} {l:List Rep} (h:ZOk w p l) (hb:Below w.heap.size w w'):ZOk w' p l:=
 ⟨h.v.below hb,h.len,h.nm,h.rd,fun a ha h0=>Nat.lt_of_lt_of_le (h.lt a ha h0) hb.size⟩
theorem RepRow.zok {w:World} {base n cap:Nat} {p:Option Addr} {L:List Rep} (h:RepRow w base (.slice p n cap) L) (hl:L.length=n) (h30:n≤30) (hr:∀ r∈L,RdOk r∧r.name.size≤maxLen):ZOk w p L:=by
 subst hl
 obtain⟨p',c',e,_,hv,hp⟩:=h.form (fun r hr'=>(hr r hr').1)
 injection e with e _ _
 subst e
 exact⟨hv,h30,fun r hr'=>(hr r hr').2,fun r hr'=>(hr r hr').1,fun a ha h0=>by
  obtain⟨b,e2,_,h2⟩:=hp h0
  rw[ha] at e2
  injection e2 with e2
  rw[e2];exact h2⟩
theorem tans_law (W:World) (p:Option Addr) (capr:Nat) (l:List Rep) (hVr:VecR W p l) (hlr:l.length≤capr) (hcr:capr≤9223372036854775807) (hrn:∀ r∈l,r.name.size≤maxLen)
  (q:Option Addr) (cap:Nat) (L:List Int) (hV:VecAt W q L) (hI:I64L L) (hl:L.length≤cap) (hc:cap≤9223372036854775807) (hops:Int) (hh0:-9223372036854775808≤hops) (hh1:hops≤9223372036854775807) (hT:HasTab W) :
  Calls Tryz.prog 3 #[.slice p l.length capr,.slice q L.length cap,.int .i64 hops] W fun e w'=>e=.returned (.bool true)∧Below W.heap.size W w':=by
 obtain⟨MR,hMR⟩:∃ MR,MR=l.length:=⟨_,rfl⟩
 have HMR:=zN hMR
 rw[←hMR] at hlr ⊢
 have HVR:=zN hVr
 have HRN:=zN hrn
 have HVL:=zN (And.intro hV hI)
 have HT:=zN hT
 clear hMR hVr hrn hV hI hT
 go_enter Tryz.func3,Tryz.ntmps3
 go_wp2_with fail
 refine (smallAll_any 35 p capr MR l HMR.out.symm (by omega) W HVR.out).mono ?_
 rintro e w0 ⟨rfl,hb0⟩
 have HB0:=zN hb0
 have hb0s:=hb0.size
 clear hb0
 cases hsm:smallB 35 l
 ·clear hsm
  go_wp2_with fail
  refine (awake12_any w0 (HT.out.below HB0.out)).mono ?_
  rintro e w1 ⟨rfl,hb1⟩
  have HB1:=zN (HB0.out.trans (hb1.mono hb0s))
  clear hb1
  go_wp2
  go_ret
  exact⟨rfl,HB1.out⟩
 have hl35:MR≤35:=by rw[HMR.out];exact (smallB_len hsm).1
 clear hsm
 go_wp2_with fail
 refine (knew_any q cap L w0 (HVL.out.1.below HB0.out) HVL.out.2 hl hc).mono ?_
 rintro e w1 ⟨rfl,hb,b,hblt,hs⟩
 have HBa:=zN (HB0.out.trans (hb.mono hb0s))
 have hb01:=hb.size
 clear HVL hb
 generalize min L.length 2000=N at *
 obtain⟨g,hg⟩:∃ g,g=w0.heap.size:=⟨_,rfl⟩
 rw[←hg] at hs hblt hb0s hb01 ⊢
 have hgw:=hs.lt
 clear hg hl hc
 go_wp2_with fail
 refine (reports_any true 5 (by omega) w1 g b N 0 hs (fun h0=>by have:=hblt h0;omega)).mono ?_
 rintro e w2 ⟨v1,l1,rfl,hrow1,hok1,_,hlen1,hg2,i2,hs2⟩
 have hs12:=hg2.size
 have HB2:=zN (HBa.out.grown hg2 HBa.out.size (fun k hk=>by injection hk with hk;omega))
 obtain⟨p1,c1,rfl,hc1⟩:=own_slice hrow1
 have HR1:=zN hrow1
 have HP1:Hid (∀ b',p1=some ⟨b',0,none⟩→b' < w2.heap.size):=zN (fun b' e=>(World.ownsRow.lt hrow1 b' (by rw[e];rfl)).2)
 have HOK1:=zN hok1
 have hblt2:0 < N→b < w2.heap.size:=fun h0=>by have:=hblt h0;omega
 clear hs hg2 hrow1 hok1 HBa
 go_wp2_with fail
 refine (reports_any false 7 (by omega) w2 g b N i2 hs2 hblt2).mono ?_
 rintro e w3 ⟨v2,l2,rfl,hrow2,hok2,_,hlen2,hg3,i3,hs3⟩
 have hs23:=hg3.size
 have HB3:=zN (HB2.out.grown hg3 HB2.out.size (fun k hk=>by injection hk with hk;omega))
 obtain⟨p2,c2,rfl,hc2⟩:=own_slice hrow2
 have HR13:=zN (HR1.out.gr hg3 hgw)
 have HR2:=zN hrow2
 have HOK2:=zN hok2
 have HS3:=zN hs3
 obtain⟨M1,hM1⟩:∃ M,M=l1.length:=⟨_,rfl⟩
 obtain⟨M2,hM2⟩:∃ M,M=l2.length:=⟨_,rfl⟩
 have HM:=zN (And.intro hM1 hM2)
 rw[←hM1] at hlen1 hc1 ⊢
 rw[←hM2] at hlen2 hc2 ⊢
 replace HR13:Hid (RepRow w3 w1.heap.size (.slice p1 M1 c1) l1):=zN (by rw[hM1];exact HR13.out)
 replace HR2:Hid (RepRow w3 w2.heap.size (.slice p2 M2 c2) l2):=zN (by rw[hM2];exact HR2.out)
 clear hs2 hg3 hrow2 hok2 HR1 hM1 hM2 hs3 HB2
 go_wp2_with fail
 have hsA:Below w3.heap.size w3 (w3.alloc (.cells #[.int .i64 0,.int .i64 1,.int .i64 4,.int .i64 24,.int .i64 100,.int .i64 1000,.int .i64 1001,.int .i64 (-1)] 3)):=(by repeat (first|(with_reducible first|assumption|exact zBr _ _|refine zBs ?_ (by first|omega|(simp<;>omega)) _|refine zBa ?_ (by first|omega|(simp<;>omega)) _|apply zBd)|assumption))
 refine (pick_any _ g b N i3 w3.heap.size [0,1,4,24,100,1000,1001,-1] 8 8 rfl (by omega) (by omega) (HS3.out.below hsA) (fun j hj=>by
  match j,hj with
  |0,_=>exact (by simp[zO,zJ,zQ])
  |1,_=>exact (by simp[zO,zJ,zQ])
  |2,_=>exact (by simp[zO,zJ,zQ])
  |3,_=>exact (by simp[zO,zJ,zQ])
  |4,_=>exact (by simp[zO,zJ,zQ])
  |5,_=>exact (by simp[zO,zJ,zQ])
  |6,_=>exact (by simp[zO,zJ,zQ])
  |7,_=>exact (by simp[zO,zJ,zQ])
  |j+8,hj=>simp at hj<;>omega) (by omega)).mono ?_
 rintro e w4 ⟨k,rfl,hk,hg4,i4,hs4⟩
 have hszA:=hsA.size
 have hsz4:=hg4.size
 have hw1:w1.heap.size≤w3.heap.size:=by omega
 have HR14:=zN ((HR13.out.bl hsA).gr hg4 hgw)
 have HR24:=zN ((HR2.out.bl hsA).gr hg4 (by omega))
 have HB4:=zN ((HB3.out.trans (hsA.mono (by have:=HB3.out.size;omega))).grown hg4 (by have:=HB3.out.size;omega) (fun k hk=>by injection hk with hk;omega))
 have HS4:=zN hs4
 have HK:=zN hk
 clear hk hg4 hs4 hsA HB3 HR13 HR2 HS3
 go_upto_region 6 with fail
 have HX1:Hid (∀ r∈l1,RdOk r∧r.name.size≤maxLen):=zN (fun r hr=>⟨(HOK1.out r hr).rdOk,(HOK1.out r hr).name_le⟩)
 go_cut [45] from 38 to 45 (fun v45 wx=>∃ bt:Bool,v45=.bool bt∧(bt=true→1 < M1)∧RepRow wx w1.heap.size (.slice p1 M1 c1) l1∧RepRow wx w2.heap.size (.slice p2 M2 c2) l2∧Below W.heap.size W wx∧w4.heap.size≤wx.heap.size)
 case first=>
  by_cases hM1:1 < M1
  ·have hd:decide ((M1:Int) > 1)=true:=zDt (by omega)
   go_wp2_with fail
   refine (srcN_any w4 g b N i4 6 HS4.out (by omega) (by omega)).mono ?_
   rintro e w5 ⟨x6,rfl,hx0,hx6,hg5,i5,hs5⟩
   have hsz5:=hg5.size
   have HR15:=zN (HR14.out.gr hg5 hgw)
   have HR25:=zN (HR24.out.gr hg5 (by omega))
   have HB5:=zN (HB4.out.grown hg5 HB4.out.size (fun k hk=>by injection hk with hk;omega))
   clear hg5 hs5
   by_cases hx:x6=0
   ·subst hx
    go_wp2
    go_meet
    case rel=>exact⟨true,rfl,fun _=>hM1,HR15.out,HR25.out,HB5.out,hsz5⟩
   ·have hxb:(x6 == 0)=false:=by rw[beq_eq_false_iff_ne];exact hx
    go_wp2
    go_meet
    case rel=>exact⟨false,rfl,(fun h=>by cases h),HR15.out,HR25.out,HB5.out,hsz5⟩
  ·have hd:decide ((M1:Int) > 1)=false:=zDf (by omega)
   go_wp2
   go_meet
   case rel=>exact⟨false,rfl,(fun h=>by cases h),HR14.out,HR24.out,HB4.out,Nat.le_refl _⟩
 case rest=>
  obtain⟨bt,rfl,hbt,hr15,hr25,hb5,hsz5⟩:=hcut
  have HR15:=zN hr15
  have HR25:=zN hr25
  have HB5:=zN hb5
  clear hr15 hr25 hb5 HR14 HR24 HB4 HS4
  generalize wc=w5 at *
  go_upto_if 45 with fail
  go_cut [8] from 46 to 55 (fun v8 wx=>v8=.slice p1 M1 c1∧∃ X,X.length=M1∧(∀ r∈X,RdOk r∧r.name.size≤maxLen)∧RepRow wx w1.heap.size (.slice p1 M1 c1) X∧RepRow wx w2.heap.size (.slice p2 M2 c2) l2∧Below W.heap.size W wx∧w5.heap.size≤wx.heap.size)
  case first=>
   cases bt
   ·go_wp2
    go_meet
    case rel=>exact⟨rfl,l1,HM.out.1.symm,HX1.out,HR15.out,HR25.out,HB5.out,Nat.le_refl _⟩
   ·have hM1:=hbt rfl
    obtain⟨m,HMM⟩:∃ m,Hid (M1-1=m):=⟨_,zN rfl⟩
    have hml:m < l1.length:=by have:=HMM.out;have:=HM.out.1;omega
    have h0l:0 < l1.length:=by omega
    have hmi:(M1:Int)-1=(m:Int):=by have:=HMM.out;omega
    have h':w5.ownsRow w1.heap.size 35 8 (.slice p1 M1 c1) l1.length (l1.flatMap rpc):=HR15.out
    obtain⟨b1,c1',e1,hb11,hb12⟩:=h'.form h0l
    injection e1 with e1 e2' e3
    clear e2'
    subst e1 e3
    have hb12':=HP1.out b1 rfl
    have s1:=HR15.out.cell8 (i:=m) (c:=2) hml (by omega) rfl
    have s2:=HR15.out.cell8 (i:=0) (c:=2) h0l (by omega) rfl
    have s3:=HR15.out.soft8 (0*8+2)
    have r1:=HR15.out.put (u:=.int .i64 (l1[m]'hml).time) (c:=2) (r':={ l1[0]'h0l with time:=(l1[m]'hml).time }) HM.out.1.symm (i:=0) h0l (by omega) rfl
    have HX:Hid (∀ r∈l1.set 0 { l1[0]'h0l with time:=(l1[m]'hml).time },RdOk r∧r.name.size≤maxLen):=zN (fun r hr=>by
     rcases List.mem_or_eq_of_mem_set hr with h|h
     ·exact HX1.out r h
     ·have h0:=HX1.out (l1[0]'h0l) (List.getElem_mem _)
      rw[h];exact⟨h0.1,h0.2⟩)
    have HXL:Hid ((l1.set 0 { l1[0]'h0l with time:=(l1[m]'hml).time }).length=M1):=zN (by rw[List.length_set];exact HM.out.1.symm)
    have r2:=own_gr (g:=b1) HR25.out (grw_set (i:=0*8+2) (v:=.int .i64 (l1[m]'hml).time) (grw_refl w5 _) (.inl rfl)) hb12'
    have HRR:=zN r1
    have HRR2:Hid (RepRow (w5.setCell ⟨b1,0*8+2,none⟩ (.int .i64 (l1[m]'hml).time)) w2.heap.size (.slice p2 M2 c2) l2):=zN r2
    have HBB:=zN (HB5.out.setCell (p:=⟨b1,0*8+2,none⟩) (by show W.heap.size≤b1;omega) (.int .i64 (l1[m]'hml).time))
    have hm0:(0:Int)≤(m:Int):=by omega
    have hm1:(m:Int) < (M1:Int):=by have:=HM.out.1;omega
    generalize (l1[m]'hml).time=tl at *
    clear r1 r2 h'
    go_wp2
    go_meet
    case rel=>exact⟨rfl,_,HXL.out,HX.out,HRR.out,HRR2.out,HBB.out,by simp<;>omega⟩
  case rest=>
   obtain⟨rfl,X,hXl,hX,hrx,hry,hbx,hszx⟩:=hcut
   have hz1:ZOk wc p1 X:=hrx.zok hXl (by omega) hX
   have hz2:ZOk wc p2 l2:=hry.zok HM.out.2.symm (by omega) (fun r hr=>⟨(HOK2.out r hr).rdOk,(HOK2.out r hr).name_le⟩)
   obtain⟨m6,hm6⟩:∃ m6:Nat,min (MR:Int) 6=(m6:Int):=⟨min MR 6,by omega⟩
   have hm6a:m6≤MR:=by omega
   have hm6b:m6≤6:=by omega
   have hVw:=HVR.out.below hbx
   have hz0:ZOk wc p (l.take m6):=⟨hVw.take m6,by rw[List.length_take];omega,fun r hr=>HRN.out r (List.mem_of_mem_take hr),fun r hr=>by
    obtain⟨j,hj,e⟩:=List.getElem_of_mem (List.mem_of_mem_take hr)
    obtain⟨bb,o,_,_,hrp⟩:=hVw.cell (by omega)
    have:=(hrp j hj).rd
    rw[e] at this;exact this,fun a ha h0=>by
    obtain⟨bb,o,e,h1,_⟩:=hVw.cell (by rw[List.length_take] at h0;omega)
    rw[ha] at e
    injection e with e
    rw[e];exact h1⟩
   have hl0:(l.take m6).length=m6:=by rw[List.length_take];have:=HMR.out;omega
   have HZZ:=zN (And.intro hz0 (And.intro hz1 (And.intro hz2 (And.intro hl0 hXl))))
   have HBX:=zN hbx
   clear hz0 hz1 hz2 hVw hrx hry hbx hl0 hXl hX HR15 HR25 HB5 hbt HX1
   go_wp2
   have hbA:Below wc.heap.size wc (wc.alloc (.cells #[.slice p m6 capr,.slice p1 M1 c1,.slice p2 M2 c2] 22)):=(zBr _ _).alloc (Nat.le_refl _) _
   have HZL:Hid (∀ j,j < 3→∃ pz cz nz ly,(wc.alloc (.cells #[.slice p m6 capr,.slice p1 M1 c1,.slice p2 M2 c2] 22)).cell? ⟨wc.heap.size,j,none⟩=some (.slice pz nz cz)∧ly.length=nz∧ZOk (wc.alloc (.cells #[.slice p m6 capr,.slice p1 M1 c1,.slice p2 M2 c2] 22)) pz ly):=zN (fun j hj=>by
    obtain⟨a0,a1,a2,a3,a4⟩:=HZZ.out
    match j,hj with
    |0,_=>exact⟨p,capr,m6,l.take m6,(by simp[zO,zJ,zQ]),a3,a0.below hbA⟩
    |1,_=>exact⟨p1,c1,M1,X,(by simp[zO,zJ,zQ]),a4,a1.below hbA⟩
    |2,_=>exact⟨p2,c2,M2,l2,(by simp[zO,zJ,zQ]),HM.out.2.symm,a2.below hbA⟩
    |j+3,hj=>omega)
   have HB6:=zN (HBX.out.trans (hbA.mono HBX.out.size))
   obtain⟨ZB,hZB⟩:∃ ZB,ZB=wc.heap.size:=⟨_,rfl⟩
   rw[←hZB] at HZL ⊢
   have hWz:=HBX.out.size
   clear hZB hbA HZZ HBX
   generalize (wc.alloc (.cells #[.slice p m6 capr,.slice p1 M1 c1,.slice p2 M2 c2] 22))=W6 at *
   have hW6:=HB6.out.size
   go_loopw [65] (fun v65 wr=>∃ j:Nat,j≤3∧v65=.int .i64 (j:Int)∧Below W6.heap.size W6 wr) (fun v65 _=>3-(intOf v65).toNat)
   case atStart=>exact⟨0,by omega,rfl,zBr _ _⟩
   case round=>
    obtain⟨j,hj3,rfl,hb⟩:=hrel
    by_cases hj:j < 3
    ·have hdj:decide ((j:Int) < 3)=true:=zDt (by omega)
     have hj0:(0:Int)≤(j:Int):=by omega
     have hj1:(j:Int) < 3:=by omega
     obtain⟨pz,cz,nz,ly,hcz,hzl,hzk⟩:=HZL.out j hj
     replace hcz:=zP hb hcz
     have HZK:=zN (hzk.below hb)
     have HZN:=zN hzl
     have hz30:nz≤30:=by rw[←hzl];exact hzk.len
     have HB7:=zN (HB6.out.trans (hb.mono hW6))
     have hWr:=HB7.out.size
     have hbs:=hb.size
     clear hzk hzl
     go_wp2
     have hbA:Below wr.heap.size wr (wr.alloc (.cells #[.int .i64 hops,.int .i64 k] 3)):=(zBr _ _).alloc (Nat.le_refl _) _
     have HNL:Hid (∀ j,j < 2→∃ n,(wr.alloc (.cells #[.int .i64 hops,.int .i64 k] 3)).cell? ⟨wr.heap.size,j,none⟩=some (.int .i64 n)):=zN (fun j hj=>by
      match j,hj with
      |0,_=>exact⟨hops,(by simp[zO,zJ,zQ])⟩
      |1,_=>exact⟨k,(by simp[zO,zJ,zQ])⟩
      |j+2,hj=>omega)
     have HB8:=zN (HB7.out.trans (hbA.mono hWr))
     have HZK8:=zN (HZK.out.below hbA)
     have HBR:=zN (hb.trans (hbA.mono hbs))
     obtain⟨IB,hIB⟩:∃ IB,IB=wr.heap.size:=⟨_,rfl⟩
     rw[←hIB] at HNL ⊢
     clear hIB hbA hb hcz HB7
     generalize (wr.alloc (.cells #[.int .i64 hops,.int .i64 k] 3))=W7 at *
     generalize wr=W8 at *
     have hW7:=HB8.out.size
     go_loopw [73] (fun v73 wr=>∃ i:Nat,i≤2∧v73=.int .i64 (i:Int)∧Below W7.heap.size W7 wr) (fun v73 _=>2-(intOf v73).toNat)
     case atStart=>exact⟨0,by omega,rfl,zBr _ _⟩
     case round=>
      obtain⟨i,hi2,rfl,hb⟩:=hrel
      have HBi:=zN (HB8.out.trans (hb.mono hW7))
      have HZi:=zN (HZK8.out.below hb)
      have HBR2:=zN hb
      by_cases hi:i < 2
      ·have hdi:decide ((i:Int) < 2)=true:=zDt (by omega)
       have hi0:(0:Int)≤(i:Int):=by omega
       have hi1:(i:Int) < 2:=by omega
       obtain⟨n,hcn⟩:=HNL.out i hi
       replace hcn:=zP hb hcn
       have hwr:=HBi.out.size
       clear hb
       have HC1:=zN (Chain_any n pz cz ly HZi.out.len wr (HT.out.below HBi.out) HZi.out.v HZi.out.lt)
       rw[HZN.out] at HC1
       go_wp2_with fail
       refine HC1.out.mono ?_
       rintro e w9 ⟨v9,rfl,hq9,hb9⟩
       clear hcn
       obtain⟨na,hna⟩:∃ na,na=(chL n ly).length:=⟨_,rfl⟩
       have hna30:na≤30:=by rw[hna];have:=chL_len (n:=n) (l:=ly);have:=HZi.out.len;omega
       obtain⟨p9,c9,rfl,hv9⟩:=hq9.rd.at' ((natI_len _).trans hna.symm)
       have HNA:=zN hna
       have HU9:=zN hv9
       have HZ9:=zN (HZi.out.below hb9)
       have HB9:=zN (HBi.out.trans (hb9.mono hwr))
       have HBR9:=zN (HBR2.out.trans (hb9.mono HBR2.out.size))
       clear hq9 hv9 hna hb9 HC1
       have HC2:=zN (rChain_any n pz cz ly HZ9.out.len w9 HZ9.out.v)
       rw[HZN.out] at HC2
       go_wp2_with fail
       refine HC2.out.mono ?_
       rintro e w10 ⟨v10,rfl,hq10,hb10⟩
       obtain⟨p10,c10,rfl,hv10⟩:=hq10.rd.at' ((natI_len _).trans HNA.out.symm)
       have HU10:=zN (HU9.out.below hb10)
       have HY10:=zN hv10
       have HZ10:=zN (HZ9.out.below hb10)
       have HB10:=zN (HB9.out.trans (hb10.mono HB9.out.size))
       have HBR10:=zN (HBR9.out.trans (hb10.mono HBR9.out.size))
       clear hq10 hv10 hb10 HC2
       have HC3:=zN (Suspects_any n pz cz nz ly HZN.out hz30 HZ10.out.nm w10 (HT.out.below HB10.out) HZ10.out.v HZ10.out.lt)
       go_wp2_with fail
       refine HC3.out.mono ?_
       rintro e w11 ⟨v11,rfl,hq11,hb11⟩
       obtain⟨ns,hns⟩:∃ ns,ns=(suL n ly).length:=⟨_,rfl⟩
       have hns30:ns≤30:=by rw[hns];have:=suL_len (n:=n) (l:=ly);have:=HZi.out.len;omega
       obtain⟨p11,c11,rfl,hv11⟩:=hq11.at' ((natI_len _).trans hns.symm)
       have HNS:=zN hns
       have HU11:=zN (HU10.out.below hb11)
       have HY11:=zN (HY10.out.below hb11)
       have HX11:=zN hv11
       have HZ11:=zN (HZ10.out.below hb11)
       have HB11:=zN (HB10.out.trans (hb11.mono HB10.out.size))
       have HBR11:=zN (HBR10.out.trans (hb11.mono HBR10.out.size))
       clear hq11 hv11 hns hb11 HC3
       have HC4:=zN (rsuspects_any n pz cz nz ly HZN.out hz30 w11 HZ11.out.v HZ11.out.lt)
       go_wp2_with fail
       refine HC4.out.mono ?_
       rintro e w12 ⟨v12,rfl,hq12,hb12⟩
       obtain⟨p12,c12,rfl,hv12⟩:=hq12.at' ((natI_len _).trans HNS.out.symm)
       have HU12:=zN (HU11.out.below hb12)
       have HY12:=zN (HY11.out.below hb12)
       have HX12:=zN (HX11.out.below hb12)
       have HV12:=zN hv12
       have HB12:=zN (HB11.out.trans (hb12.mono HB11.out.size))
       have HBR12:=zN (HBR11.out.trans (hb12.mono HBR11.out.size))
       clear hq12 hv12 hb12 HC4
       generalize chE n ly=ce at *
       generalize suE n ly=se at *
       go_wp2_with fail
       refine (kintsEq p9 p10 (natI (chL n ly)) c9 c10 na w12 ((natI_len _).trans HNA.out.symm) HU12.out HY12.out (by omega)).mono ?_
       rintro e w13 ⟨rfl,hb13⟩
       have HX13:=zN (HX12.out.below hb13)
       have HV13:=zN (HV12.out.below hb13)
       have HBR13:=zN (HBR12.out.trans (hb13.mono HBR12.out.size))
       clear hb13
       go_wp2_with fail
       refine (kintsEq p11 p12 (natI (suL n ly)) c11 c12 ns w13 ((natI_len _).trans HNS.out.symm) HX13.out HV13.out (by omega)).mono ?_
       rintro e w14 ⟨rfl,hb14⟩
       have HBR14:=zN (HBR13.out.trans (hb14.mono HBR13.out.size))
       clear hb14
       go_wp2
       go_roundw
       case rel=>first|exact⟨i+1,by omega,by go_num,HBR14.out⟩|((repeat apply zEx);refine⟨⟨i+1,by omega,?_,HBR14.out⟩,rfl⟩;first|rfl|go_num)
       case measure=>simp[intOf]<;>omega
      ·have hdi:decide ((i:Int) < 2)=false:=zDf (by omega)
       have HBx:=zN (HBR.out.trans (HBR2.out.mono (by have:=HBR.out.size;omega)))
       clear hb
       by_cases hn2:1 < nz
       ·have hd2:decide ((nz:Int) > 1)=true:=zDt (by omega)
        have h0z:0 < ly.length:=by rw[HZN.out];omega
        have h1z:1 < ly.length:=by rw[HZN.out];omega
        obtain⟨bb,o,rfl,_,hrp⟩:=HZi.out.v.cell h0z
        have hr0:=hrp 0 h0z
        have hr1:=hrp 1 h1z
        generalize ly[0]=r0 at *
        generalize ly[1]=r1 at *
        have HRD:=zN (And.intro hr0.rd hr1.rd)
        have e08:o+0*8=o:=by omega
        have e18:o+1*8=o+8:=by omega
        rw[e08] at hr0
        rw[e18] at hr1
        have hSS:RptAt wr.drew bb o r0∧RptAt wr.drew bb (o+8) r1:=⟨hr0.of_block rfl,hr1.of_block rfl⟩
        have hj1z:(1:Int) < (nz:Int):=by omega
        have hj0z:(0:Int) < (nz:Int):=by omega
        have HTw:=zN (HT.out.below HBi.out)
        clear hrp h0z h1z hr0 hr1 e08 e18
        go_wp2_with fail
        refine RX.region RX.fN (fun w'=>RptAt w' bb o r0∧RptAt w' bb (o+8) r1) (by kernel_rfl) (by kernel_rfl) (hSS) (fun OPS HO QR hQR=>?_)
        repeat (refine zeX (fun R hR=>?_);(first|refine zaX (by first|rfl|(rw[HO.out];rfl)) (by simp only[zA,zB,zC,zD];rfl) ?_|refine zbX (by first|rfl|(rw[HO.out];rfl)) rfl (by first|exact .inl rfl|exact .inr rfl) (by simp only[zE,zF,zG,zH];rfl) (by simp only[zA,zB,zC,zD];rfl) ?_|refine zcX (by first|rfl|(rw[HO.out];rfl)) rfl rfl (by simp only[zE,zF,zG,zH];rfl) (by simp only[zA,zB,zC,zD];rfl) ?_|(refine zdX (by first|rfl|(rw[HO.out];rfl)) rfl rfl rfl ?_;apply zEx;apply zEx;refine⟨fun w' hS K hK=>?_,?_,?_⟩;(focus (obtain⟨⟨x0,x1,x2,x3,x4,x5,x6,x7,_⟩,⟨y0,y1,y2,y3,y4,y5,y6,y7,_⟩⟩:=hS;go_wp2;exact hK _ _ (by simp only[zl,zG,zH];first|exact zf (by omega)|exact zg (by omega)|exact zh (by omega)|exact zi (by omega)|exact zj (by omega)|exact zk (by omega)|exact RX.bneB _|rfl) rfl));(focus (simp only[zA,zB,zC,zD];rfl))));refine hR _ _ ?_;clear hR R)
        refine zeX (fun R hR=>?_)
        refine zgX (by first|rfl|(rw[HO.out];rfl)) rfl (fun K hK=>?_)
        go_wp2_with fail
        refine (Plausible_any k r0 r1 HRD.out.1 HRD.out.2 wr.drew (HTw.out.below (zBd (zBr _ _)))).mono ?_
        rintro e w15 ⟨rfl,hb15⟩
        have hS15:RptAt w15 bb o r0∧RptAt w15 bb (o+8) r1:=⟨hSS.1.below hb15,hSS.2.below hb15⟩
        have HBY:=zN (show Below wr.heap.size wr w15 from (zBd (zBr _ _)).trans hb15)
        obtain⟨pb,hpb⟩:∃ pb,pb=plausB k r0 r1:=⟨_,rfl⟩
        have HPB:=zN hpb
        rw[←hpb]
        clear hb15 hSS hpb
        refine hK _ _ ⟨hS15,hR _ _ ?_⟩;clear hK K hR R
        repeat (refine zeX (fun R hR=>?_);(first|refine zaX (by first|rfl|(rw[HO.out];rfl)) (by simp only[zA,zB,zC,zD];rfl) ?_|refine zbX (by first|rfl|(rw[HO.out];rfl)) rfl (by first|exact .inl rfl|exact .inr rfl) (by simp only[zE,zF,zG,zH];rfl) (by simp only[zA,zB,zC,zD];rfl) ?_|refine zcX (by first|rfl|(rw[HO.out];rfl)) rfl rfl (by simp only[zE,zF,zG,zH];rfl) (by simp only[zA,zB,zC,zD];rfl) ?_|(refine zdX (by first|rfl|(rw[HO.out];rfl)) rfl rfl rfl ?_;apply zEx;apply zEx;refine⟨fun w' hS K hK=>?_,?_,?_⟩;(focus (obtain⟨⟨x0,x1,x2,x3,x4,x5,x6,x7,_⟩,⟨y0,y1,y2,y3,y4,y5,y6,y7,_⟩⟩:=hS;go_wp2;exact hK _ _ (by simp only[zl,zG,zH];first|exact zf (by omega)|exact zg (by omega)|exact zh (by omega)|exact zi (by omega)|exact zj (by omega)|exact zk (by omega)|exact RX.bneB _|rfl) rfl));(focus (simp only[zA,zB,zC,zD];rfl))));refine hR _ _ ?_;clear hR R)
        refine zeX (fun R hR=>?_)
        refine zgX (by first|rfl|(rw[HO.out];rfl)) rfl (fun K hK=>?_)
        go_wp2_with fail
        refine (rPlausible_any k r0 r1 HRD.out.1 HRD.out.2 w15).mono ?_
        rintro e w16 ⟨rfl,hb16⟩
        rw[←HPB.out]
        have hS16:RptAt w16 bb o r0∧RptAt w16 bb (o+8) r1:=⟨hS15.1.below hb16,hS15.2.below hb16⟩
        have HBY2:=zN (HBx.out.trans ((HBY.out.trans (hb16.mono HBY.out.size)).mono HBx.out.size))
        have hpp:(pb != pb)=false:=by cases pb<;>rfl
        clear hb16 hS15
        refine hK _ _ ⟨hS16,hR _ _ ?_⟩;clear hK K hR R
        repeat (refine zeX (fun R hR=>?_);(first|refine zaX (by first|rfl|(rw[HO.out];rfl)) (by simp only[zA,zB,zC,zD];rfl) ?_|refine zbX (by first|rfl|(rw[HO.out];rfl)) rfl (by first|exact .inl rfl|exact .inr rfl) (by simp only[zE,zF,zG,zH];rfl) (by simp only[zA,zB,zC,zD];rfl) ?_|refine zcX (by first|rfl|(rw[HO.out];rfl)) rfl rfl (by simp only[zE,zF,zG,zH];rfl) (by simp only[zA,zB,zC,zD];rfl) ?_|(refine zdX (by first|rfl|(rw[HO.out];rfl)) rfl rfl rfl ?_;apply zEx;apply zEx;refine⟨fun w' hS K hK=>?_,?_,?_⟩;(focus (obtain⟨⟨x0,x1,x2,x3,x4,x5,x6,x7,_⟩,⟨y0,y1,y2,y3,y4,y5,y6,y7,_⟩⟩:=hS;go_wp2;exact hK _ _ (by simp only[zl,zG,zH];first|exact zf (by omega)|exact zg (by omega)|exact zh (by omega)|exact zi (by omega)|exact zj (by omega)|exact zk (by omega)|exact RX.bneB _|rfl) rfl));(focus (simp only[zA,zB,zC,zD];rfl))));refine hR _ _ ?_;clear hR R)
        refine RX.wpL_nil (hQR _ _ (hS16) ?_);clear hQR QR HO OPS
        go_wp2
        go_roundw
        case rel=>first|exact⟨j+1,by omega,by go_num,HBY2.out⟩|((repeat apply zEx);refine⟨⟨j+1,by omega,?_,HBY2.out⟩,rfl⟩;first|rfl|go_num)
        case measure=>simp[intOf]<;>omega
       ·have hd2:decide ((nz:Int) > 1)=false:=zDf (by omega)
        have HBY2:=zN (HBx.out.drew)
        go_wp2_with fail
        refine RX.region RX.fN (fun w'=>w'=_) (by kernel_rfl) (by kernel_rfl) rfl (fun OPS HO QR hQR=>?_)
        repeat (refine zeX (fun R hR=>?_);(first|refine zaX (by first|rfl|(rw[HO.out];rfl)) (by simp only[zA,zB,zC,zD];rfl) ?_|refine zbX (by first|rfl|(rw[HO.out];rfl)) rfl (by first|exact .inl rfl|exact .inr rfl) (by simp only[zE,zF,zG,zH];rfl) (by simp only[zA,zB,zC,zD];rfl) ?_|refine zcX (by first|rfl|(rw[HO.out];rfl)) rfl rfl (by simp only[zE,zF,zG,zH];rfl) (by simp only[zA,zB,zC,zD];rfl) ?_|(refine zdX (by first|rfl|(rw[HO.out];rfl)) rfl rfl rfl ?_;apply zEx;apply zEx;refine⟨fun w' hS K hK=>?_,?_,?_⟩;(focus (subst hS;go_wp2;exact hK _ _ (by simp only[zl,zG,zH];first|exact zf (by omega)|exact zg (by omega)|exact zh (by omega)|exact zi (by omega)|exact zj (by omega)|exact zk (by omega)|exact RX.bneB _|rfl) rfl));(focus (simp only[zA,zB,zC,zD];rfl))));refine hR _ _ ?_;clear hR R)
        refine RX.wpL_nil (hQR _ _ rfl ?_);clear hQR QR HO OPS
        go_wp2
        go_roundw
        case rel=>first|exact⟨j+1,by omega,by go_num,HBY2.out⟩|((repeat apply zEx);refine⟨⟨j+1,by omega,?_,HBY2.out⟩,rfl⟩;first|rfl|go_num)
        case measure=>simp[intOf]<;>omega
    ·have hdj:decide ((j:Int) < 3)=false:=zDf (by omega)
     have HB9:=zN (HB6.out.trans (hb.mono hW6))
     have hWr:=HB9.out.size
     clear hb
     by_cases hM30:30 < MR
     ·have hd3:decide ((MR:Int) > 30)=true:=zDt (by omega)
      go_wp2_with fail
      refine (Chain_long hops p MR capr hM30 wr).mono ?_
      rintro e w20 ⟨rfl,hb20⟩
      have HB20:=zN (HB9.out.trans (hb20.mono hWr))
      clear hb20
      go_wp2_with fail
      refine (awake12_any w20 (HT.out.below HB20.out)).mono ?_
      rintro e w21 ⟨rfl,hb21⟩
      have HB21:=zN (HB20.out.trans (hb21.mono HB20.out.size))
      clear hb21
      go_wp2
      go_ret
      exact⟨rfl,HB21.out⟩
     ·have hd3:decide ((MR:Int) > 30)=false:=zDf (by omega)
      go_wp2_with fail
      refine (awake12_any wr (HT.out.below HB9.out)).mono ?_
      rintro e w21 ⟨rfl,hb21⟩
      have HB21:=zN (HB9.out.trans (hb21.mono hWr))
      clear hb21
      go_wp2
      go_ret
      exact⟨rfl,HB21.out⟩
end Go.Proofs.YtbomggfklfbnkaaGreatDoor
