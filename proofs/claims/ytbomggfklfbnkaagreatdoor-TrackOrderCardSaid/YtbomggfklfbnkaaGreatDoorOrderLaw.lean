import Derived.Test.YtbomggfklfbnkaaGreatDoorKOrd
set_option maxRecDepth 100000
set_option maxHeartbeats 8000000
set_option linter.unusedSimpArgs false
set_option linter.unusedVariables false
namespace Go.Proofs.YtbomggfklfbnkaaGreatDoor
open Go.RowKit Go.Grid Go.Maps Go.Sort Go.Shelf Go.Chain
theorem below4 {n:Nat} {W wr:World} {b i1 i2 i3 i4:Nat} {v1 v2 v3 v4:Value} (h:Below n W wr) (hb:n≤b):Below n W ((((wr.setCell ⟨b,i1,none⟩ v1).setCell ⟨b,i2,none⟩ v2).setCell ⟨b,i3,none⟩ v3).setCell ⟨b,i4,none⟩ v4):=by
 have h1:=h.setCell (p:=⟨b,i1,none⟩) hb v1
 have h2:=h1.setCell (p:=⟨b,i2,none⟩) hb v2
 have h3:=h2.setCell (p:=⟨b,i3,none⟩) hb v3
 exact h3.setCell (p:=⟨b,i4,none⟩) hb v4
theorem order_law (W:World) (q:Option Addr) (cap:Nat) (L:List Int) (hV:VecAt W q L) (hI:I64L L) (hl:L.length≤cap) (hc:cap≤9223372036854775807) (hT:HasTab W) :
  Calls Tryz.prog 5 #[.slice q L.length cap] W fun e w'=>e=.returned (.bool true)∧Below W.heap.size W w':=by
 go_enter Tryz.func5,Tryz.ntmps5
 go_wp2_with fail
 refine (knew_any q cap L W hV hI hl hc).mono ?_
 rintro e w1 ⟨rfl,hb,b,hblt,hs⟩
 clear hV hI
 have HT:=zN hT
 generalize min L.length 2000=N at *
 obtain⟨g,hg⟩:∃ g,g=W.heap.size:=⟨_,rfl⟩
 rw[←hg] at hs hblt ⊢
 have HG:=zN hg
 have hgw:=hs.lt
 clear hg hT hl hc
 go_wp2_with fail
 refine (reports_any true 6 (by omega) w1 g b N 0 hs (fun h0=>by have:=hblt h0;have:=hb.size;have:=HG.out;omega)).mono ?_
 rintro e w2 ⟨v,l,rfl,hrow,hok,hasc,hlen,hg2,i2,hs2⟩
 obtain⟨p,cp,rfl,hcp⟩:=own_slice hrow
 have hs12:=hg2.size
 replace hb:=hb.grown hg2 hb.size (fun k hk=>by injection hk with hk;have:=HG.out;omega)
 have HOK:=zN hok
 have HASC:=zN hasc
 have HLN:=zN hlen
 have HROW:=zN hrow
 have HS2:=zN hs2
 have HB2:=zN hb
 have HBL:=zN hblt
 have hW1:g < w1.heap.size:=hgw
 have hbb:0 < N→b < g:=hblt
 obtain⟨M,hM⟩:∃ M,M=l.length:=⟨_,rfl⟩
 have hM6:M≤6:=by rw[hM];exact hlen
 have HM:=zN hM
 rw[←hM]
 have HROW:Hid (RepRow w2 w1.heap.size (.slice p M cp) l):=zN (by rw[hM];exact HROW.out)
 clear hg2 hs hok hasc hlen hrow hs2 hb hblt hM hcp hgw
 go_wp2
 go_loopw [26] (fun v26 wr=>∃ (k:Nat) (x:List Rep),k≤M∧v26=.int .i64 (k:Int)∧KN l x k∧RepRow wr w1.heap.size (.slice p M cp) x∧(∃ i,SrcAt wr g b N i)∧Below W.heap.size W wr∧w2.heap.size≤wr.heap.size) (fun v26 _=>M-(intOf v26).toNat)
 case atStart=>exact⟨0,l,by omega,rfl,KN.start l,HROW.out,⟨_,HS2.out⟩,HB2.out,Nat.le_refl _⟩
 case round=>
  obtain⟨k,x,hkM,rfl,hkn,hrow,⟨i,hs⟩,hb,hsz⟩:=hrel
  have hxl:x.length=M:=by rw[hkn.len];exact HM.out.symm
  by_cases hk:k < M
  ·have hdk:decide ((k:Int) < (M:Int))=true:=zDt (by omega)
   have hk0:(0:Int)≤(k:Int):=by omega
   have hk1:(k:Int) < (M:Int):=by omega
   obtain⟨b2,hp,hb2,hb3⟩:∃ b2,p=some ⟨b2,0,none⟩∧w1.heap.size≤b2∧b2 < wr.heap.size:=by
    have h':wr.ownsRow w1.heap.size 35 8 (.slice p M cp) x.length (x.flatMap rpc):=hrow
    obtain⟨g',c',e,h1,h2⟩:=h'.form (by omega)
    injection e with e
    exact⟨g',e,h1,h2⟩
   subst hp
   have HKN:=zN hkn
   have HR:=zN hrow
   have HB:=zN hb
   have HXL:=zN hxl
   clear hkn hrow hb hxl
   go_wp2_with fail
   refine (srcRange_any wr g b N i 2 3 hs (by omega) (by omega) (by omega)).mono ?_
   rintro e w3 ⟨kd,rfl,hkd1,hkd2,hg3,i3,hs3⟩
   have hrow3:RepRow w3 w1.heap.size (.slice (some ⟨b2,0,none⟩) M cp) x:=HR.out.gr hg3 hW1
   have hkx:k < x.length:=by rw[HXL.out];exact hk
   have hk3:k*8+0=k*8:=rfl
   obtain⟨kd0,c0⟩:∃ z:Int,w3.cell? ⟨b2,k*8,none⟩=some (.int .i64 z):=⟨_,hrow3.cell8 (c:=0) hkx (by omega) rfl⟩
   have f0:=hrow3.soft8 (k*8)
   have hrow4:=hrow3.put (u:=.int .i64 kd) (c:=0) (r':={ x[k] with kind:=kd }) HXL.out hkx (by omega) rfl
   have hx3:w3.heap.size=w3.heap.size:=rfl
   have HB3:=zN (HB.out.grown hg3 HB.out.size (fun j hj=>by injection hj with hj;have:=HG.out;omega))
   have hsz3:=hg3.size
   have HR4:=zN hrow4
   have HKX:=zN hkx
   have hb2l:=HB.out.size
   have hgb2:g≠b2:=by omega
   have hs4:=hs3.other (k:=b2) (j:=k*8) (v:=.int .i64 kd) hgb2 (fun h0=>by have:=hbb h0;omega)
   have HS4:=zN hs4
   have HW0:=zN (And.intro hgb2 hsz3)
   clear hg3 hs3 hs4 hrow3 hrow4 hk3 hx3 hgb2
   go_wp2_with fail
   obtain⟨W4,hW4⟩:∃ W4,W4=w3.setCell ⟨b2,k*8,none⟩ (.int .i64 kd):=⟨_,rfl⟩
   rw[←hW4]
   have hsz4:W4.heap.size=w3.heap.size:=by rw[hW4];simp
   rw[←hsz4]
   have hbA:Below W4.heap.size W4 (W4.alloc (.cells #[.string { data:=#[68,69,76,84,65] },.string { data:=#[69,67,72,79,55] }] 9)):=(by repeat (first|(with_reducible first|assumption|exact zBr _ _|refine zBs ?_ (by first|omega|(simp<;>omega)) _|refine zBa ?_ (by first|omega|(simp<;>omega)) _|apply zBd)|assumption))
   have HS4':Hid (SrcAt W4 g b N i3):=zN (by rw[hW4];exact HS4.out)
   have HR4':Hid (RepRow W4 w1.heap.size (.slice (some ⟨b2,0,none⟩) M cp) (x.set k { x[k] with kind:=kd })):=zN (by rw[hW4];exact HR4.out)
   have HB4:Hid (Below W.heap.size W W4):=zN (by rw[hW4];exact HB3.out.setCell (p:=⟨b2,k*8,none⟩) (by show W.heap.size≤b2;have:=HG.out;omega) _)
   have HZ4:=zN hsz4
   clear HS4 HR4 hsz4 hW4 c0 f0 HB3 HR HB
   have hAl:W4.heap.size+1=(W4.alloc (.cells #[.string { data:=#[68,69,76,84,65] },.string { data:=#[69,67,72,79,55] }] 9)).heap.size:=by simp
   refine (text2_any _ g b N i3 W4.heap.size dStr eStr (HS4'.out.below hbA) (by simp[zO,zJ,zQ];rfl) (by simp[zO,zJ,zQ];rfl) (by have:=HS4'.out.lt;omega)).mono ?_
   rintro e w5 ⟨nm,rfl,hnm,hg5,i5,hs5⟩
   have hbb2:b2 < W4.heap.size:=by have:=HZ4.out;omega
   have hrow5:RepRow w5 w1.heap.size (.slice (some ⟨b2,0,none⟩) M cp) (x.set k { x[k] with kind:=kd }):=(HR4'.out.bl hbA).gr hg5 hW1
   have hkx5:k < (x.set k { x[k] with kind:=kd }).length:=by rw[List.length_set];exact hkx
   obtain⟨nm0,c1⟩:∃ z:ByteArray,w5.cell? ⟨b2,k*8+1,none⟩=some (.string z):=⟨_,hrow5.cell8 (c:=1) hkx5 (by omega) rfl⟩
   have f1:=hrow5.soft8 (k*8+1)
   have hrow6:=hrow5.put (u:=.string nm) (c:=1) (r':={ x[k] with kind:=kd,name:=nm }) (by rw[List.length_set];exact HXL.out) hkx5 (by omega) (by simp[rpc])
   rw[List.set_set] at hrow6
   have HR6:=zN hrow6
   have HS6:=zN (hs5.other (k:=b2) (j:=k*8+1) (v:=.string nm) HW0.out.1 (fun h0=>by have:=hbb h0;omega))
   have HB5:=zN ((HB4.out.trans (hbA.mono (by have:=HB4.out.size;omega))).grown hg5 (by have:=HB4.out.size;have:=hbA.size;omega) (fun j hj=>by injection hj with hj;have:=HG.out;omega))
   have HNM:=zN hnm
   have hsz5:w2.heap.size≤w5.heap.size:=by have:=hg5.size;have:=hbA.size;have:=HZ4.out;have:=HW0.out.2;omega
   clear hrow5 hrow6 hg5 hs5 hnm hbA HR4' HS4' HB4 hkx5
   go_wp2
   go_roundw
   case rel=>
    refine⟨k+1,_,by omega,by go_num,HKN.out.step hkx (by omega) HNM.out,HR6.out,⟨_,HS6.out⟩,?_,?_⟩
    ·exact HB5.out.setCell (p:=⟨b2,k*8+1,none⟩) (by show W.heap.size≤b2;have:=HG.out;omega) _
    ·simp<;>omega
   case measure=>simp[intOf]<;>omega
  ·have hdk:decide ((k:Int) < (M:Int))=false:=zDf (by omega)
   have hkM':k=M:=by omega
   rw[hkM'] at hkn ⊢
   have HKN:=zN hkn
   have HR:=zN hrow
   have HS:=zN hs
   have HB:=zN hb
   have HXL:=zN hxl
   have hbW:=hb.size
   clear hkn hrow hs hb hxl hkM' hk hkM hdk
   generalize wr=W5 at *
   go_wp2_with (at_builtin;refine Hid.out ?_)
   refine zN ?_
   have hown:(W5.alloc (.cells #[.int .i64 1,.string dStr,.int .i64 5,.int .i64 0,.int .i64 0,.int .i64 0,.int .i64 0,.slice none 0 0] 35)).ownsRow w1.heap.size 35 8 (.slice p M cp) M (x.flatMap rpc):=World.ownsRow.alloc (by have h:=HR.out;unfold RepRow at h;rw[HXL.out] at h;exact h) _
   have hbA:Below W5.heap.size W5 (W5.alloc (.cells #[.int .i64 1,.string dStr,.int .i64 5,.int .i64 0,.int .i64 0,.int .i64 0,.int .i64 0,.slice none 0 0] 35)):=(by repeat (first|(with_reducible first|assumption|exact zBr _ _|refine zBs ?_ (by first|omega|(simp<;>omega)) _|refine zBa ?_ (by first|omega|(simp<;>omega)) _|apply zBd)|assumption))
   refine RX.wpl_apq (by rfl) elRep _ _ (by rfl) w1.heap.size _ _ _ hown (by rfl) W5.heap.size _ 1 (by rfl) (heap_alloc_new _ _) (by rfl) (by simp[Value.oneCell']) (by omega) (by omega) (by simp;have:=HS.out.lt;omega) ?_
   intro v6 w6 hown6 hb6 hg6 hat6
   have hrow6:RepRow w6 w1.heap.size v6 (x ++ [landR]):=RepRow.snoc (by rw[HXL.out];exact hown6)
   have hx1:(x ++ [landR]).length=M+1:=by rw[List.length_append,HXL.out];rfl
   have hox:OrdX x (x ++ [landR]):=ordX HOK.out HASC.out (by rw[←HM.out];exact HKN.out)
   have hq5:w1.heap.size≤W5.heap.size:=by omega
   have hb56:Below w1.heap.size W5 w6:=(hbA.mono hq5).trans hb6
   generalize x ++ [landR]=X at *
   obtain⟨p6,c6,rfl,hc6,hv6,hp6⟩:=hrow6.form hox.rd
   obtain⟨b6,rfl,hb61,hb62⟩:=hp6 (by omega)
   rw[hx1] at hrow6 hc6 ⊢
   have HR6:=zN hrow6
   have HX1:=zN hx1
   have HOX:=zN hox
   have HV6:=zN hv6
   have HS6:=zN (HS.out.kept (hb56.block _ hW1) (fun h0=>hb56.block _ (by have:=hbb h0;omega)))
   have HB6:=zN (HB.out.trans (hb56.mono (by have:=HG.out;omega)))
   clear hown hbA hown6 hb6 hg6 hat6 hrow6 hx1 hb56 HR HS hox hv6 hp6
   have hgb6:g≠b6:=by omega
   go_wp2_with fail
   refine (order_any w6 g b N i (M+1) (by omega) HS6.out).mono ?_
   rintro e w7 ⟨v7,O,rfl,hO,hq7,hg7,i7,hs7⟩
   have hq7l:O.length=M+1:=ord_len hO
   obtain⟨p7,c7,rfl,hc7⟩:=own_slice hq7
   rw[hq7l] at hc7 ⊢
   have hsz67:=hg7.size
   have HR7:=zN (HR6.out.gr hg7 hW1)
   have HV7:=zN (HV6.out.gr hg7 (fun a ha _=>by injection ha with ha;rw[←ha];exact fun e=>hgb6 e.symm))
   have HS7:=zN hs7
   have HB7:=zN (HB6.out.grown hg7 HB6.out.size (fun j hj=>by injection hj with hj;have:=HG.out;omega))
   have HO:=zN hO
   have HQ7:=zN hq7
   have HOL:=zN hq7l
   have hW7:g < w7.heap.size:=by omega
   clear hO hq7 hg7 hs7 hq7l HR6 HS6 HB6 HV6
   go_wp2
   go_loopw [7,53] (fun v7 v53 wr=>∃ k:Nat,k≤M+1∧v53=.int .i64 (k:Int)∧RepRow wr w7.heap.size v7 ((O.take k).map (fun i=>X.getD i rep0))∧Below w7.heap.size w7 wr) (fun _ v53 _=>M+1-(intOf v53).toNat)
   case atStart=>exact⟨0,by omega,rfl,RepRow.nil _ _,zBr _ _⟩
   case round=>
    obtain⟨k,hkM,rfl,hrow,hb⟩:=hrel
    obtain⟨pl,hple⟩:∃ pl,pl=(O.take k).map (fun i=>X.getD i rep0):=⟨_,rfl⟩
    have hpl:pl.length=k:=by rw[hple,List.length_map,List.length_take,HOL.out];omega
    rw[←hple] at hrow
    by_cases hk:k < M+1
    ·have hdk:decide ((k:Int) < (M:Int)+1)=true:=zDt (by omega)
     have hkO:k < O.length:=by rw[HOL.out];exact hk
     obtain⟨py,cy,rfl,hcy⟩:=own_slice hrow
     obtain⟨gq,cq,e1,_,hgq1,hgq2,hqc⟩:=QRow.at_ (own_bl HQ7.out hb) (List.getElem?_eq_getElem hkO)
     obtain⟨a,ha⟩:∃ a,a=O[k]:=⟨_,rfl⟩
     rw[←ha] at hqc
     injection e1 with e1 _ e3
     subst e1 e3
     have hal:a < M+1:=by
      have h1:=List.mem_range.1 (HO.out.mem_iff.1 (List.getElem_mem hkO))
      rw[←ha] at h1;exact h1
     obtain⟨bb,o,e2,_,hrp⟩:=(HV7.out.below hb).cell (by rw[HX1.out];omega)
     obtain⟨rfl,rfl⟩:b6=bb∧0=o:=by injection e2 with e2;injection e2 with e3 e4;exact⟨e3,e4⟩
     have haX:a < X.length:=by rw[HX1.out];exact hal
     have hra:=hrp a haX
     rw[Nat.zero_add] at hra
     have HPT:Hid ((O.take (k+1)).map (fun i=>X.getD i rep0)=pl ++ [X[a]]):=zN (by
      rw[List.take_succ_eq_append_getElem hkO,List.map_append,hple,←ha,List.map_singleton,getD_rep haX])
     generalize X[a]=r at *
     obtain⟨q,nq,cq',hrd⟩:=hra.rd
     obtain⟨c0,c1,c2,c3,c4,c5,c6',c7',_⟩:=hra
     rw[hrd] at c7'
     have hrpc:rpc r=[.int .i64 r.kind,.string r.name,.int .i64 r.time,.int .i64 r.f,.int .i64 r.a,.int .i64 r.b,.int .i64 r.c,.slice q nq cq']:=by unfold rpc;rw[hrd]
     have HRPC:=zN hrpc
     have hown:(wr.alloc (.cells #[.int .i64 r.kind,.string r.name,.int .i64 r.time,.int .i64 r.f,.int .i64 r.a,.int .i64 r.b,.int .i64 r.c,.slice q nq cq'] 35)).ownsRow w7.heap.size 35 8 (.slice py pl.length cy) pl.length (pl.flatMap rpc):=World.ownsRow.alloc hrow _
     have ha0:(0:Int)≤(a:Int):=by omega
     have ha1:(a:Int) < (M:Int)+1:=by omega
     have hj0:(0:Int)≤(k:Int):=by omega
     have hjI:(k:Int) < (M:Int)+1:=by omega
     have hpl30:pl.length≤30:=by omega
     have hsz:=hb.size
     have HB:=zN hb
     clear hrp e2 ha hal haX hrd hrpc hpl hb hrow hple hkO
     go_wp2_with (refine RX.wpl_apq (by rfl) elRep _ _ (by rfl) w7.heap.size _ _ _ hown (by rfl) wr.heap.size _ 1 (by rfl) (heap_alloc_new _ _) (by rfl) (by simp[Value.oneCell']) (by omega) (by omega) (by simp;omega) ?_;intro v' w8 hown2 hb8 hg8 hat8)
     have HR8:Hid (RepRow w8 w7.heap.size v' (pl ++ [r])):=zN (RepRow.snoc (by rw[HRPC.out];exact hown2))
     have HB8:Hid (Below w7.heap.size w7 w8):=zN ((HB.out.alloc hsz _).trans hb8)
     clear hown2 hb8 hg8 hat8 hown c0 c1 c2 c3 c4 c5 c6' c7' hqc
     go_wp2
     go_roundw
     case rel=>exact⟨k+1,by omega,by go_num,by rw[HPT.out];exact HR8.out,HB8.out⟩
     case measure=>simp[intOf]<;>omega
    ·have hdk:decide ((k:Int) < (M:Int)+1)=false:=zDf (by omega)
     have hkM':k=M+1:=by omega
     obtain⟨Y,hY⟩:∃ Y,Y=O.map (fun i=>X.getD i rep0):=⟨_,rfl⟩
     have hYp:pl=Y:=by rw[hple,hY,hkM',←HOL.out,List.take_length]
     rw[hYp] at hrow
     have hYl:Y.length=M+1:=by rw[hY,List.length_map,HOL.out]
     have hO':O.Perm (List.range X.length):=by rw[HX1.out];exact HO.out
     obtain⟨py,cy,rfl,hcy,hvy,hpy⟩:=hrow.form (ordY (n:=0) HOX.out (by omega) (by omega) hO' hY).rd
     obtain⟨by',rfl,hby1,hby2⟩:=hpy (by omega)
     rw[hYl] at hcy ⊢
     have HY:=zN hY
     have HO':=zN hO'
     have HYL:=zN hYl
     have HVY:=zN hvy
     have HVX:=zN (HV7.out.below hb)
     have HRX:=zN (RepRow.bl HR7.out hb)
     have HQ:=zN (own_bl HQ7.out hb)
     have HS:=zN (HS7.out.below hb)
     have hsz3:=hb.size
     have hBr:=HB7.out.trans (hb.mono (by have:=HB7.out.size;omega))
     have hBrs:=hBr.size
     have HBr:=zN hBr
     clear hY hYl hO' hvy hpy hrow hb hple hpl hYp hkM' hk hkM hBr
     go_wp2_with fail
     have hsA:Below wr.heap.size wr (wr.alloc (.cells #[.int .i64 0,.int .i64 4,.int .i64 24] 3)):=(by repeat (first|(with_reducible first|assumption|exact zBr _ _|refine zBs ?_ (by first|omega|(simp<;>omega)) _|refine zBa ?_ (by first|omega|(simp<;>omega)) _|apply zBd)|assumption))
     refine (pick_any _ g b N i7 wr.heap.size [0,4,24] 3 3 rfl (by omega) (by omega) (HS.out.below hsA) (fun j hj=>by
      match j,hj with
      |0,_=>exact (by simp[zO,zJ,zQ])
      |1,_=>exact (by simp[zO,zJ,zQ])
      |2,_=>exact (by simp[zO,zJ,zQ])
      |j+3,hj=>simp at hj<;>omega) (by omega)).mono ?_
     rintro e w8 ⟨n,rfl,hn,hg8,i8,hs8⟩
     have hn2:0≤n∧n≤1000:=by
      simp only[List.mem_cons,List.not_mem_nil,or_false] at hn
      omega
     obtain⟨hn0,hn1⟩:=hn2
     have hszA:=hsA.size
     have hsz8:=hg8.size
     have HVX8:=zN ((HVX.out.below hsA).gr hg8 (fun a ha h0=>by injection ha with ha;rw[←ha];exact fun e=>hgb6 e.symm))
     have HVY8:=zN ((HVY.out.below hsA).gr hg8 (fun a ha h0=>by injection ha with ha;rw[←ha];show by'≠g;omega))
     have HRX8:=zN ((HRX.out.bl hsA).gr hg8 hW1)
     have HQ8:=zN (own_gr (own_bl HQ.out hsA) hg8 (by omega))
     have HB8:=zN ((HBr.out.trans (hsA.mono (by omega))).grown hg8 (by omega) (fun k hk=>by injection hk with hk;have:=HG.out;omega))
     clear hn hg8 hs8 hsA
     have HOY:=zN (ordY HOX.out hn0 hn1 HO'.out HY.out)
     have HC1:=zN (Suspects_any n (some ⟨b6,0,none⟩) c6 (M+1) X HX1.out (by omega) HOX.out.nm w8 (HT.out.below HB8.out) HVX8.out (fun a ha h0=>by injection ha with ha;rw[←ha];show b6 < w8.heap.size;omega))
     rw[(HOX.out.su hn0 hn1).1] at HC1
     obtain⟨ca,hca⟩:∃ ca,ca=suL n X:=⟨_,rfl⟩
     have HCA:=zN hca
     rw[←hca] at HC1
     have hcal:ca.length≤7:=by
      rw[hca,(HOX.out.su hn0 hn1).2]
      have:=(rsOf X).susp_len (relP n X)
      have e:(rsOf X).n=M+1:=HX1.out
      omega
     clear hca
     go_wp2_with fail
     refine HC1.out.mono ?_
     rintro e w9 ⟨v9,rfl,hq9,hb9⟩
     obtain⟨na,hna⟩:∃ na,na=ca.length:=⟨_,rfl⟩
     obtain⟨p9,c9,rfl,hv9⟩:=hq9.at' ((natI_len ca).trans hna.symm)
     have HNA:=zN hna
     rw[←hna] at hcal
     have hsz9:=hb9.size
     have HB9:=zN (HB8.out.trans (hb9.mono (by have:=HB8.out.size;omega)))
     have HVX9:=zN (HVX8.out.below hb9)
     have HVY9:=zN (HVY8.out.below hb9)
     have HRX9:=zN (HRX8.out.bl hb9)
     have HQ9:=zN (own_bl HQ8.out hb9)
     have HI9:=zN hq9
     clear hq9 hv9 hna hb9 HC1
     have HC2:=zN (Suspects_any n (some ⟨by',0,none⟩) cy (M+1) Y HYL.out (by omega) HOY.out.nm w9 (HT.out.below HB9.out) HVY9.out (fun a ha h0=>by injection ha with ha;rw[←ha];show by' < w9.heap.size;omega))
     rw[HOY.out.sE] at HC2
     obtain⟨cb,hcb⟩:∃ cb,cb=suL n Y:=⟨_,rfl⟩
     have HCB:=zN hcb
     rw[←hcb] at HC2
     have hcbl:cb.length=na:=by rw[HNA.out,hcb,HCA.out];exact HOY.out.same
     have HNB:=zN hcbl
     clear hcb hcbl
     go_wp2_with fail
     refine HC2.out.mono ?_
     rintro e w10 ⟨v10,rfl,hq10,hb10⟩
     obtain⟨p10,c10,rfl,hv10⟩:=hq10.at' ((natI_len cb).trans HNB.out)
     have hsz10:=hb10.size
     have HB10:=zN (HB9.out.trans (hb10.mono (by have:=HB9.out.size;omega)))
     have HVY10:=zN (HVY9.out.below hb10)
     have HRX10:=zN (HRX9.out.bl hb10)
     have HVX10:=zN (HVX9.out.below hb10)
     have HQ10:=zN (own_bl HQ9.out hb10)
     have HI10:=zN (HI9.out.below hb10)
     have HX10:=zN hv10
     clear hq10 hv10 hb10 HC2
     go_wp2
     generalize wr=W6 at *
     generalize k=k0 at *
     go_loopw [95] (fun v95 wr=>∃ k:Nat,k≤na∧v95=.int .i64 (k:Int)∧wr=w10) (fun v95 _=>na-(intOf v95).toNat)
     case atStart=>exact⟨0,by omega,rfl,rfl⟩
     case round=>
      obtain⟨k,hkN,rfl,rfl⟩:=hrel
      by_cases hk:k < na
      ·have hdk2:decide ((k:Int) < (na:Int))=true:=zDt (by omega)
       have hkc:k < cb.length:=by rw[HNB.out];exact hk
       obtain⟨bb,o,rfl,_,hrp⟩:=HX10.out.cell (by rw[natI_len];omega)
       have hri:=hrp k (by rw[natI_len];exact hkc)
       have e0:(natI cb)[k]'(by rw[natI_len];exact hkc)=(cb[k]:Int):=by simp[natI]
       rw[e0] at hri
       obtain⟨z1,z2,z3,z4⟩:=HOY.out.mem cb[k] (by rw[←HCB.out];exact List.getElem_mem hkc)
       generalize cb[k]=bi at *
       rw[HX1.out] at z1 z2
       obtain⟨gq,cq,e1,_,hgq1,hgq2,hqc⟩:=QRow.at_ HQ10.out (i:=bi) (u:=O.getD bi 0) (by rw[getD_nat (by rw[HOL.out];exact z1)];exact List.getElem?_eq_getElem _)
       injection e1 with e1 _ e3
       subst e1 e3
       generalize O.getD bi 0=oi at *
       have hkin:decide ((oi:Int)∈natI ca)=true:=zDt (by unfold natI;rw[HCA.out];exact List.mem_map_of_mem z3)
       obtain⟨bb2,o2,e2,_,hrp2⟩:=HVY10.out.cell (by rw[HYL.out];omega)
       obtain⟨rfl,rfl⟩:by'=bb2∧0=o2:=by injection e2 with e2;injection e2 with e3 e4;exact⟨e3,e4⟩
       have hbY:bi < Y.length:=by rw[HYL.out];exact z1
       have hcY:=(hrp2 bi hbY).c0
       rw[Nat.zero_add] at hcY
       rw[getD_rep hbY] at z4
       generalize Y[bi].kind=kd at *
       have hkd:(kd == 1)=false:=by rw[beq_eq_false_iff_ne];exact z4
       have hb0:decide ((bi:Int) < 0)=false:=zDf (by omega)
       have hb1:decide ((bi:Int)≥(M:Int)+1)=false:=zDf (by omega)
       have hi0:(0:Int)≤(k:Int):=by omega
       have hi1:(k:Int) < (na:Int):=by omega
       have hj0:(0:Int)≤(bi:Int):=by omega
       have hj1:(bi:Int) < (M:Int)+1:=by omega
       clear hrp e0 z2 z3 z4 hrp2 e2 hbY
       go_wp2_with fail
       refine (kinN_any _ (natI ca) _ wr HI10.out (by rw[natI_len,←HNA.out];omega)).mono ?_
       rintro e w11 ⟨rfl,rfl⟩
       rw[hkin]
       go_wp2
       go_roundw
       case rel=>first|exact⟨k+1,by omega,by go_num,(by first|rfl|trivial)⟩|((repeat apply zEx);refine⟨⟨k+1,by omega,?_,(by first|rfl|trivial)⟩,rfl⟩;first|rfl|go_num)
       case measure=>simp[intOf]<;>omega
      ·have hdk2:decide ((k:Int) < (na:Int))=false:=zDf (by omega)
       obtain⟨p0,hp0⟩:∃ p0,p0=X.getD 0 rep0:=⟨_,rfl⟩
       have HP0:=zN hp0
       clear hp0
       go_wp2
       generalize wr=W11 at *
       go_loopw [127] (fun v127 wr=>∃ (k:Nat) (Z:List Rep),k≤M+1∧v127=.int .i64 (k:Int)∧PLs X Z k∧RepRow wr w1.heap.size (.slice (some ⟨b6,0,none⟩) (M+1) c6) Z∧Below W.heap.size W wr∧W11.heap.size≤wr.heap.size) (fun v127 _=>M+1-(intOf v127).toNat)
       case atStart=>exact⟨0,X,by omega,rfl,PLs.start X,HRX10.out,HB10.out,Nat.le_refl _⟩
       case round=>
        obtain⟨k,Z,hkM,rfl,hpl,hrow,hb,hsz⟩:=hrel
        have hZl:Z.length=M+1:=by rw[hpl.len];exact HX1.out
        by_cases hk:k < M+1
        ·have hdk3:decide ((k:Int) < (M:Int)+1)=true:=zDt (by omega)
         have hkZ:k < Z.length:=by rw[hZl];exact hk
         have h0Z:0 < Z.length:=by omega
         obtain⟨n1,n2,n3,n4⟩:=hpl.new 0 h0Z (.inr rfl)
         rw[←HP0.out] at n1 n2 n3 n4
         have s3:=hrow.cell8 (i:=0) (c:=3) (u:=.int .i64 p0.f) h0Z (by omega) (by rw[←n1];rfl)
         have s4:=hrow.cell8 (i:=0) (c:=4) (u:=.int .i64 p0.a) h0Z (by omega) (by rw[←n2];rfl)
         have s5:=hrow.cell8 (i:=0) (c:=5) (u:=.int .i64 p0.b) h0Z (by omega) (by rw[←n3];rfl)
         have s6:=hrow.cell8 (i:=0) (c:=6) (u:=.int .i64 p0.c) h0Z (by omega) (by rw[←n4];rfl)
         have d3:=hrow.cell8 (i:=k) (c:=3) hkZ (by omega) rfl
         have d4:=hrow.cell8 (i:=k) (c:=4) hkZ (by omega) rfl
         have d5:=hrow.cell8 (i:=k) (c:=5) hkZ (by omega) rfl
         have d6:=hrow.cell8 (i:=k) (c:=6) hkZ (by omega) rfl
         have f3:=hrow.soft8 (k*8+3)
         have f4:=hrow.soft8 (k*8+4)
         have f5:=hrow.soft8 (k*8+5)
         have f6:=hrow.soft8 (k*8+6)
         have r3:=hrow.put (u:=.int .i64 p0.f) (c:=3) (r':={ Z[k] with f:=p0.f }) hZl hkZ (by omega) rfl
         have r4:=r3.put (u:=.int .i64 p0.a) (c:=4) (r':={ Z[k] with f:=p0.f,a:=p0.a }) (by rw[List.length_set];exact hZl) (by rw[List.length_set];exact hkZ) (by omega) (by simp[rpc])
         have r5:=r4.put (u:=.int .i64 p0.b) (c:=5) (r':={ Z[k] with f:=p0.f,a:=p0.a,b:=p0.b }) (by simp only[List.length_set];exact hZl) (by simp only[List.length_set];exact hkZ) (by omega) (by simp[rpc])
         have r6:=r5.put (u:=.int .i64 p0.c) (c:=6) (r':={ Z[k] with f:=p0.f,a:=p0.a,b:=p0.b,c:=p0.c }) (by simp only[List.length_set];exact hZl) (by simp only[List.length_set];exact hkZ) (by omega) (by simp[rpc])
         simp only[List.set_set] at r6
         have HR6:=zN r6
         have HPL:=zN (hpl.step hkZ)
         rw[←HP0.out] at HPL
         have HB:=zN hb
         have hk0:(0:Int)≤(k:Int):=by omega
         have hk1:(k:Int) < (M:Int)+1:=by omega
         clear r3 r4 r5 r6 hpl hrow hb n1 n2 n3 n4 h0Z hZl
         generalize Z[k]=zk at *
         go_wp2
         go_roundw
         case rel=>exact⟨k+1,_,by omega,by go_num,HPL.out,HR6.out,below4 HB.out (by have:=HG.out;omega),by simp<;>omega⟩
         case measure=>simp[intOf]<;>omega
        ·have hdk3:decide ((k:Int) < (M:Int)+1)=false:=zDf (by omega)
         have hkm:x.length≤k:=by rw[HXL.out];omega
         obtain⟨q1,q2,q3,q4⟩:=hpl.none HOX.out hkm hn0 hn1
         have hrd:∀ r∈Z,RdOk r:=fun r hr=>by
          obtain⟨j,hj,rfl⟩:=List.getElem_of_mem hr
          have hjX:j < X.length:=by rw[←hpl.len];exact hj
          obtain⟨_,_,_,e⟩:=hpl.same j hjX hj
          obtain⟨a1,a2,a3,e2⟩:=HOX.out.rd _ (List.getElem_mem hjX)
          exact⟨a1,a2,a3,e.trans e2⟩
         obtain⟨pz,cz,ez,_,hvz,_⟩:=hrow.form hrd
         injection ez with ez ey ex
         rw[←ez] at hvz
         clear ez ey ex
         have hvt:=hvz.take x.length
         rw[HXL.out] at q1 q2 q3 q4 hvt
         have HC3:=zN (Suspects_any n (some ⟨b6,0,none⟩) c6 M (Z.take M) q4 (by omega) q3 wr (HT.out.below hb) hvt (fun a ha h0=>by injection ha with ha;rw[←ha];show b6 < wr.heap.size;omega))
         rw[q1,q2] at HC3
         have HB:=zN hb
         clear q1 q2 q3 q4 hrd hvz hvt hrow hpl hb hkm
         go_wp2_with fail
         refine HC3.out.mono ?_
         rintro e w12 ⟨v12,rfl,hq12,hb12⟩
         obtain⟨p12,c12,rfl,_⟩:=hq12.at' (n:=0) rfl
         have HB12:=zN (HB.out.trans (hb12.mono (by have:=HB.out.size;omega)))
         clear hq12 hb12 HC3
         go_wp2_with fail
         refine (awake12_any w12 (HT.out.below HB12.out)).mono ?_
         rintro e w13 ⟨rfl,hb13⟩
         have HB13:=zN (HB12.out.trans (hb13.mono (by have:=HB12.out.size;omega)))
         clear hb13
         go_wp2
         go_ret
         exact⟨rfl,HB13.out⟩
end Go.Proofs.YtbomggfklfbnkaaGreatDoor
