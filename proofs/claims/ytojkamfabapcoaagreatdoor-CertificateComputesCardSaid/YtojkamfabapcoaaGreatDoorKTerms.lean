import Derived.RangeFuncNested
import Derived.RangeFuncBound
import Derived.RangeFuncCalls
import Derived.RangeFuncLeaves
import Derived.Shelf.Abstract
import Derived.Shelf.RegionOpen
import Derived.WalkKit
import Derived.OwnWalkIn
import Derived.TacticsInMore
import Derived.LoopNIn
import Derived.LoopIn
import Derived.Test.YtojkamfabapcoaaGreatDoorKCSys
import Derived.IntWalk
import Derived.Test.YtojkamfabapcoaaGreatDoorKFreq
set_option maxRecDepth 100000
set_option maxHeartbeats 8000000
set_option linter.unusedSimpArgs false
set_option linter.unusedVariables false
namespace Go.Proofs.YtojkamfabapcoaaGreatDoor
open Go.RowKit Go.Grid Go.Shelf
attribute [local go_sem] Oper.semAt_some
abbrev TX (M:Int):={ x:Int × Int // 0≤x.1∧x.1 < M }
def rowT (p:Rw × Int):List (Int × Int):=p.1.sh.map (fun c=>(c.1,c.2*(p.1.weight*p.2)))
def tTo (RF:List (Rw × Int)) (k:Nat):List (Int × Int):=(RF.take k).flatMap rowT
def tAll (RF:List (Rw × Int)):List (Int × Int):=RF.flatMap rowT
theorem tTo_succ {RF:List (Rw × Int)} {k:Nat} (hk:k < RF.length):tTo RF (k+1)=tTo RF k ++ rowT RF[k]:=by
 unfold tTo
 rw[List.take_succ_eq_append_getElem hk,List.flatMap_append];simp
theorem tTo_all (RF:List (Rw × Int)):tTo RF RF.length=tAll RF:=by unfold tTo tAll;rw[List.take_length]
theorem tTo_lt {RF:List (Rw × Int)} {k t:Nat} (hk:k < RF.length) (ht:t < RF[k].1.sh.length):(tTo RF k ++ (rowT RF[k]).take t).length < (tAll RF).length:=by
 have h1:tAll RF=tTo RF k ++ rowT RF[k] ++ (RF.drop (k+1)).flatMap rowT:=by
  rw[←tTo_succ hk];unfold tTo tAll
  rw[←List.flatMap_append,List.take_append_drop]
 rw[h1]
 have h2:(rowT RF[k]).length=RF[k].1.sh.length:=by simp[rowT]
 simp only[List.length_append,List.length_take];omega
def TermOk (M:Int) (p:Rw × Int):Prop:=(∀ c∈p.1.sh,ShOk M c)∧(1≤p.1.weight∧p.1.weight≤100)∧(-8589934592≤p.2∧p.2≤8589934592)∧p.1.sh.length≤1000
def KpB (N Bf:Nat) (W W':World):Prop:=Below N W W'∧∀ v,W.cell? ⟨Bf,0,none⟩=some v→W'.cell? ⟨Bf,0,none⟩=some v
theorem KpB.refl (N Bf:Nat) (W:World):KpB N Bf W W:=⟨zBr _ _,fun _ h=>h⟩
theorem KpB.trans {N Bf:Nat} {A B C:World} (h:KpB N Bf A B) (k:KpB N Bf B C):KpB N Bf A C:=⟨h.1.trans k.1,fun v e=>k.2 v (h.2 v e)⟩
theorem belowG_grown {w w':World} (h:Below w.heap.size w w'):w.grownBy w' none:=⟨h.os,h.tape,h.output,h.size,fun k hk _=>h.block k hk⟩
theorem KpB.of {N Bf:Nat} {W W':World} (hN:N≤W.heap.size) (h:Below W.heap.size W W'):KpB N Bf W W':=⟨h.mono hN,fun v e=>zP h e⟩
theorem KpB.put {N Bf:Nat} {w:World} (hN:N≤w.heap.size) (hB:Bf < w.heap.size) (W:World) (l:Nat) (o o':Obj) (hl:w.heap.size≤l) (h:W.heap[l]?=some o) (h1:o.isCells=false) (h2:o.isWalk=false):KpB N Bf W (W.putObj l o'):=by
 have hg:=grownBy_putObj' W l o'
 refine⟨belowK_b hN W l o o' hl h h1 h2,fun v e=>hg.cell e ?_⟩
 simp;omega
theorem fprod_bd {a b A B:Int} (ha:0≤a) (hA:a≤A) (h1:-B≤b) (h2:b≤B) (hB:0≤B):-(A*B)≤a*b∧a*b≤A*B:=by
 have h:=mulw_bd ha h1 h2
 have h3:=Int.mul_le_mul_of_nonneg_right hA hB
 omega
attribute [local go_sem] Oper.semAt_some
attribute [local go_sem] Oper.semAt_some
theorem terms1M_in {M:Int} (n l Bs Bf Bx N:Nat) (hn:1≤n) (RF:List (Rw × Int)) (p1:Option Addr) (d1:Nat) (J Jx:List (TX M)→World→Prop) (w0 W:World)
  (hN:w0.heap.size≤N) (hN2:N≤W.heap.size) (hb0:Below w0.heap.size w0 W) (hR:RwIn w0 p1 (RF.map (·.1)))
  (hBs:W.cell? ⟨Bs,3,none⟩=some (.slice p1 RF.length d1)) (hBf:W.cell? ⟨Bf,0,none⟩=some (.func (.func 70) #[] #[.pointer (some ⟨Bx,0,none⟩)]))
  (hok:∀ p∈RF,TermOk M p) (hlen:RF.length≤200)
  (hfac:∀ k (hk:k < RF.length) (W':World) (q:Option Addr) (cap:Nat),Below N W W'→ShIn W' q RF[k].1.sh→RF[k].1.sh.length≤cap→Calls Tryz.prog 70 #[.int .i64 k,rwv RF[k].1 q cap,.pointer (some ⟨Bx,0,none⟩)] W' fun e W''=>e=.returned (.int .i64 RF[k].2)∧Below W'.heap.size W' W'')
  (hJ:AbidesFrom W.heap.size J)
  (hY:∀ pre (x:TX M) W1,J pre W1→pre.length < (tAll RF).length→YieldAt Fence.wide (n-1) Tryz.prog l #[.int .i64 x.1.1,.int .i64 x.1.2] W1 fun e W'=>
   (e=.returned (.bool true)∧J (pre ++ [x]) W'∧KpB N Bf W1 W')∨(e=.returned (.bool false)∧Jx (pre ++ [x]) W'))
  (h0:J [] W) :
  CallsIn Fence.wide n Tryz.prog 106 #[.func (.yield l) #[] #[],.pointer (some ⟨Bs,0,none⟩),.pointer (some ⟨Bf,0,none⟩)] W fun e W'=>(∃ v,e=.returned v)∧
   ((∃ ys:List (TX M),ys.map (·.1)=tAll RF∧J ys W')∨(∃ pre:List (TX M),True∧Jx pre W')):=by
 have HR:=zN hR
 have HOK:=zN hok
 have HF:=zN hfac
 have HJ:=zN hJ
 have HY:=zN hY
 have HB0:=zN hb0
 clear hR hok hfac hJ hY hb0
 refine callsIn_of_wp Tryz.func106 rfl trivial ?_ rfl
 simp only[Tryz.ntmps106,List.size_toArray,List.length_cons,List.length_nil,Nat.reduceAdd,Nat.reduceSub,Array.replicate_succ,Array.replicate_zero,List.push_toArray,List.append_toArray,List.nil_append,List.cons_append]
 gi_wp2
 gi_loopw [12] (fun i wr=>∃ k:Nat,k≤RF.length∧i=.int .i64 k∧Hid (∃ pre:List (TX M),pre.map (·.1)=tTo RF k∧J pre wr)∧Below N W wr∧wr.cell? ⟨Bf,0,none⟩=some (.func (.func 70) #[] #[.pointer (some ⟨Bx,0,none⟩)])) (fun i _=>RF.length-(intOf i).toNat)
 case atStart=>exact⟨0,Nat.zero_le _,rfl,zN ⟨[],by simp[tTo],h0⟩,zBr _ _,hBf⟩
 case round=>
  obtain⟨k,hk,rfl,HP,hb,hbf⟩:=hrel
  by_cases hlt:k < RF.length
  ·have hdk:decide ((k:Int) < (RF.length:Int))=true:=zDt (by omega)
   have hbw:Below w0.heap.size w0 wr:=HB0.out.trans (hb.mono hN)
   obtain⟨bR,oR,rfl,hbR,hcR⟩:=HR.out.get (by simp;omega)
   obtain⟨q,cap,g0,gcap,gsh,g1,g2,g3⟩:=hcR k (by simp;exact hlt)
   replace g0:=zP hbw g0
   replace g1:=zP hbw g1
   replace g2:=zP hbw g2
   replace g3:=zP hbw g3
   have hbRw:bR < wr.heap.size:=zM _ _ g0
   rw[List.getElem_map] at g0 gcap gsh g1 g2 g3
   have hto:=HOK.out RF[k] (List.getElem_mem _)
   have HFk:=zN (HF.out k hlt)
   have HSUC:=zN (tTo_succ hlt)
   have HLT:Hid (∀ t,t < RF[k].1.sh.length→(tTo RF k ++ (rowT RF[k]).take t).length < (tAll RF).length):=zN (fun t ht=>tTo_lt hlt ht)
   obtain⟨P,hPe⟩:∃ P,P=RF[k]:=⟨_,rfl⟩
   rw[←hPe] at g0 gcap gsh g1 g2 g3 hto HFk HSUC HLT
   obtain⟨r,φ⟩:=P
   dsimp only at g0 gcap gsh g1 g2 g3 HFk HLT
   obtain⟨hsh,⟨hw1,hw2⟩,⟨hφ1,hφ2⟩,hshl⟩:=hto
   dsimp only at hsh hw1 hw2 hφ1 hφ2 hshl
   have hpb:=fprod_bd (a:=r.weight) (b:=φ) (A:=100) (B:=8589934592) (by omega) hw2 hφ1 hφ2 (by omega)
   obtain⟨fv,hfv⟩:∃ fv,r.weight*φ=fv:=⟨_,rfl⟩
   rw[hfv] at hpb
   have HFV:=zN hfv
   have HSH:=zN hsh
   have HG0:=zN gsh
   have HG:=zN (gsh.below hbw)
   have hk0:(0:Int)≤(k:Int):=by omega
   have hkI:(k:Int) < (RF.length:Int):=by omega
   have HB:=zN hb
   have hNw:N≤wr.heap.size:=by have:=hb.size;omega
   have hwne:¬ (bR=wr.heap.size):=by omega
   clear hPe hcR gsh hsh hb hbw
   gi_wp2
   refine absW (F:=fun w'=>w'.cell? ⟨wr.heap.size,0,none⟩=some (.slice q r.sh.length cap)∧w'.cell? ⟨wr.heap.size,1,none⟩=some (.int .i64 r.value)∧w'.cell? ⟨wr.heap.size,2,none⟩=some (.int .i64 r.weight)∧w'.cell? ⟨wr.heap.size,3,none⟩=some (.int .i64 r.report)∧w'.cell? ⟨Bf,0,none⟩=some (.func (.func 70) #[] #[.pointer (some ⟨Bx,0,none⟩)])∧Below wr.heap.size wr w') ⟨(by simp[zO,zJ,zQ]),(by simp[zO,zJ,zQ]),(by simp[zO,zJ,zQ]),(by simp[zO,zJ,zQ]),zP (show Below wr.heap.size wr _ from (by repeat (first|(with_reducible first|assumption|exact zBr _ _|refine zBs ?_ (by first|omega|simp<;>omega) _|refine zBa ?_ (by first|omega|simp<;>omega) _|apply zBd)|assumption))) hbf,(by repeat (first|(with_reducible first|assumption|exact zBr _ _|refine zBs ?_ (by first|omega|simp<;>omega) _|refine zBa ?_ (by first|omega|simp<;>omega) _|apply zBd)|assumption))⟩ ?_
   rintro W5 ⟨a0,a1,a2,a3,a4,hb5⟩
   refine wpIn_wide.2 ?_
   refine RX.region RX.fN (fun w'=>w'.cell? ⟨wr.heap.size,0,none⟩=some (.slice q r.sh.length cap)∧w'.cell? ⟨wr.heap.size,1,none⟩=some (.int .i64 r.value)∧w'.cell? ⟨wr.heap.size,2,none⟩=some (.int .i64 r.weight)∧w'.cell? ⟨wr.heap.size,3,none⟩=some (.int .i64 r.report)∧w'.cell? ⟨Bf,0,none⟩=some (.func (.func 70) #[] #[.pointer (some ⟨Bx,0,none⟩)])) (by kernel_rfl) (by kernel_rfl) (⟨a0,a1,a2,a3,a4⟩) (fun OPS HO QR hQR=>?_)
   repeat (refine zeX (fun R hR=>?_);(first|refine zaX (by first|rfl|(rw[HO.out];rfl)) (by simp only[zA,zB,zC,zD];rfl) ?_|refine zbX (by first|rfl|(rw[HO.out];rfl)) rfl (by first|exact .inl rfl|exact .inr rfl) (by simp only[zE,zF,zG,zH];rfl) (by simp only[zA,zB,zC,zD];rfl) ?_|refine zcX (by first|rfl|(rw[HO.out];rfl)) rfl rfl (by simp only[zE,zF,zG,zH];rfl) (by simp only[zA,zB,zC,zD];rfl) ?_|(refine zdX (by first|rfl|(rw[HO.out];rfl)) rfl rfl rfl ?_;apply zEx;apply zEx;refine⟨fun w' hS K hK=>?_,?_,?_⟩;(focus (obtain⟨hS1,hS2,hS3,hS4,hS5⟩:=hS;go_wp2;exact hK _ _ (by simp only[zl,zG,zH];first|exact zf (by omega)|exact zg (by omega)|exact zh (by omega)|exact zi (by omega)|exact zj (by omega)|exact zk (by omega)|exact RX.bneB _|rfl) rfl));(focus (simp only[zA,zB,zC,zD];rfl))));refine hR _ _ ?_;clear hR R)
   refine zeX (fun R hR=>?_)
   refine zgX (by first|rfl|(rw[HO.out];rfl)) rfl (fun K hK=>?_)
   go_wp2_with fail
   refine (HFk.out _ q cap ?_ ?_ gcap).mono ?_
   ·exact HB.out.trans ((hb5.mono hNw).trans (by repeat (first|(with_reducible first|assumption|exact zBr _ _|refine zBs ?_ (by first|omega|simp<;>omega) _|refine zBa ?_ (by first|omega|simp<;>omega) _|apply zBd)|assumption)))
   ·exact (HG.out.below hb5).below (by repeat (first|(with_reducible first|assumption|exact zBr _ _|refine zBs ?_ (by first|omega|simp<;>omega) _|refine zBa ?_ (by first|omega|simp<;>omega) _|apply zBd)|assumption))
   rintro e w6 ⟨rfl,hb6⟩
   replace hb6:Below W5.heap.size W5 w6:=⟨hb6.os,hb6.tape,hb6.output,hb6.size,hb6.block⟩
   have z0:=zP hb6 a0
   have z1:=zP hb6 a1
   have z2:=zP hb6 a2
   have z3:=zP hb6 a3
   have z4:=zP hb6 a4
   have hb7:=hb5.trans (hb6.mono hb5.size)
   have HB7:=zN hb7
   clear hb6 hb5 hb7 a0 a1 a2 a3 a4
   refine hK _ _ ⟨⟨z0,z1,z2,z3,z4⟩,hR _ _ ?_⟩;clear hK K hR R
   repeat (refine zeX (fun R hR=>?_);(first|refine zaX (by first|rfl|(rw[HO.out];rfl)) (by simp only[zA,zB,zC,zD];rfl) ?_|refine zbX (by first|rfl|(rw[HO.out];rfl)) rfl (by first|exact .inl rfl|exact .inr rfl) (by simp only[zE,zF,zG,zH];rfl) (by simp only[zA,zB,zC,zD];rfl) ?_|refine zcX (by first|rfl|(rw[HO.out];rfl)) rfl rfl (by simp only[zE,zF,zG,zH];rfl) (by simp only[zA,zB,zC,zD];rfl) ?_|(refine zdX (by first|rfl|(rw[HO.out];rfl)) rfl rfl rfl ?_;apply zEx;apply zEx;refine⟨fun w' hS K hK=>?_,?_,?_⟩;(focus (obtain⟨hS1,hS2,hS3,hS4,hS5⟩:=hS;go_wp2;exact hK _ _ (by simp only[zl,zG,zH];first|exact zf (by omega)|exact zg (by omega)|exact zh (by omega)|exact zi (by omega)|exact zj (by omega)|exact zk (by omega)|exact RX.bneB _|rfl) rfl));(focus (simp only[zA,zB,zC,zD];rfl))));refine hR _ _ ?_;clear hR R)
   refine RX.wpL_nil (hQR _ _ (⟨z0,z1,z2,z3,z4⟩) ?_);clear hQR QR HO OPS
   obtain⟨preK,hpreK,hJK⟩:=HP.out
   have hg7:=belowG_grown HB7.out
   have HJ6:=zN (HJ.out preK _ _ none hJK hg7 (fun r e=>by cases e))
   have hb8:Below N W w6:=HB.out.trans (HB7.out.mono hNw)
   have HPK:=zN hpreK
   clear hg7 hJK HP hpreK HFk g0 g1 g2 g3
   gi_wp2
   gi_loopw [27] (fun i wx=>∃ t:Nat,t≤r.sh.length∧i=.int .i64 t∧Hid (∃ pre:List (TX M),pre.map (·.1)=tTo RF k ++ (rowT (r,φ)).take t∧J pre wx)∧Below N W wx∧wx.cell? ⟨Bf,0,none⟩=some (.func (.func 70) #[] #[.pointer (some ⟨Bx,0,none⟩)])) (fun i _=>r.sh.length-(intOf i).toNat)
   case atStart=>exact⟨0,Nat.zero_le _,rfl,zN ⟨preK,by simpa using HPK.out,HJ6.out⟩,hb8,z4⟩
   case round=>
    clear z0 z1 z2 z3 z4 hb8 HJ6
    obtain⟨t,ht,rfl,HQ,hbx,hbfx⟩:=hrel
    by_cases hlt2:t < r.sh.length
    ·have hdt:decide ((t:Int) < (r.sh.length:Int))=true:=zDt (by omega)
     have hbx0:Below w0.heap.size w0 wr:=HB0.out.trans (hbx.mono hN)
     obtain⟨b,o,rfl,hbl,hcell⟩:=HG0.out.get (by omega)
     obtain⟨e0,e1⟩:=hcell t hlt2
     replace e0:=zP hbx0 e0
     replace e1:=zP hbx0 e1
     obtain⟨hm1,hm2⟩:=HSH.out r.sh[t] (List.getElem_mem _)
     have HTK:Hid ((rowT (r,φ)).take (t+1)=(rowT (r,φ)).take t ++ [(r.sh[t].1,r.sh[t].2*fv)]):=zN (by
      rw[List.take_succ_eq_append_getElem (by simp[rowT];exact hlt2)]
      simp only[rowT,List.getElem_map,HFV.out])
     have HL2:=zN (HLT.out t hlt2)
     obtain⟨c,hce⟩:∃ c,c=r.sh[t]:=⟨_,rfl⟩
     rw[←hce] at e0 e1 hm1 hm2 HTK
     obtain⟨c0,c1⟩:=c
     dsimp only at e0 e1 hm1 hm2 HTK
     have hpb2:=fprod_bd (a:=c1) (b:=fv) (A:=840) (B:=858993459200) (by omega) hm2.2 (by omega) (by omega) (by omega)
     obtain⟨pv,hpv⟩:∃ pv,c1*fv=pv:=⟨_,rfl⟩
     rw[hpv] at hpb2 HTK
     obtain⟨pre,hpre,hJx⟩:=HQ.out
     have hlen2:pre.length < (tAll RF).length:=by
      have h9:=congrArg List.length hpre
      rw[List.length_map] at h9
      rw[h9];exact HL2.out
     have ht0:(0:Int)≤(t:Int):=by omega
     have htI:(t:Int) < (r.sh.length:Int):=by omega
     have hbne:¬ (b=wr.heap.size):=by have:=hbx0.size;omega
     have hgr:wr.grownBy (wr.alloc (.cells #[.int .i64 c0,.int .i64 c1] 90)) none:=World.grownBy_alloc _ _ _
     have hJa:=HJ.out pre _ _ none hJx hgr (fun r e=>by cases e)
     have hbxa:Below N W (wr.alloc (.cells #[.int .i64 c0,.int .i64 c1] 90)):=hbx.alloc (by have:=hbx.size;omega) _
     have hbfa:=zP (show Below wr.heap.size wr (wr.alloc (.cells #[.int .i64 c0,.int .i64 c1] 90)) from (zBr _ _).alloc (Nat.le_refl _) _) hbfx
     obtain⟨fn,tmps,assign,body,hy,hRd⟩:=HY.out pre ⟨(c0,c1*fv),hm1⟩ _ hJa hlen2
     dsimp only at hy
     rw[hpv] at hy
     have HBXA:=zN hbxa
     have HPR:=zN hpre
     clear hce hcell hJx HQ hgr hJa hbx hbxa hpre hbx0
     gi_wp2
     refine hRd.mono ?_
     rintro e W3 (⟨rfl,hJ3,hk3⟩|⟨rfl,hJx3⟩)
     ·have HQ2:Hid (∃ pre:List (TX M),pre.map (·.1)=tTo RF k ++ (rowT (r,φ)).take (t+1)∧J pre W3):=zN ⟨_,by
       rw[List.map_append,HPR.out,HTK.out,List.append_assoc]
       simp[hpv],hJ3⟩
      have hbx3:Below N W W3:=HBXA.out.trans hk3.1
      have hbf3:=hk3.2 _ hbfa
      clear hJ3 hk3
      gi_wp2
      go_roundw
      case rel=>exact⟨t+1,by omega,by go_num,HQ2,hbx3,hbf3⟩
      case measure=>simp[intOf];omega
     ·gi_wp2
      refine bodyPost_ret (results_none rfl _ _ _) rfl ?_
      exact⟨⟨_,rfl⟩,.inr ⟨_,trivial,hJx3⟩⟩
    ·have hdt:decide ((t:Int) < (r.sh.length:Int))=false:=zDf (by omega)
     obtain rfl:t=r.sh.length:=by omega
     have HQ2:Hid (∃ pre:List (TX M),pre.map (·.1)=tTo RF (k+1)∧J pre wr):=zN (by
      obtain⟨pre,h1,h2⟩:=HQ.out
      exact⟨pre,by rw[h1,HSUC.out,List.take_of_length_le (by simp[rowT])],h2⟩)
     gi_wp2
     go_roundw
     case rel=>exact⟨k+1,by omega,by go_num,HQ2,hbx,hbfx⟩
     case measure=>simp[intOf];omega
  ·have hdk:decide ((k:Int) < (RF.length:Int))=false:=zDf (by omega)
   obtain rfl:k=RF.length:=by omega
   obtain⟨pre,h1,h2⟩:=HP.out
   rw[tTo_all] at h1
   gi_wp2
   go_end0
   exact⟨⟨_,rfl⟩,.inl ⟨pre,h1,h2⟩⟩
open Go.RowKit Go.Grid
def SyOk (S:Sy):Prop:=PrOk S.f S.s S.a∧S.rows.length≤200∧S.targets.length=S.rows.length∧∀ i (h1:i < S.rows.length) (h2:i < S.targets.length),AscA S.rows[i].sh∧RowOk (10*S.f*S.f+2) S.rows[i] S.targets[i]
theorem rowsErr_zero {nodes:Int}:∀ {R:List Rw} {T:List Int},rowsErr nodes R T=0→∀ i (h1:i < R.length) (h2:i < T.length),rowErr nodes R[i] T[i]=0
 |[],_,_,i,h1,_=>by simp at h1
 |_ :: _,[],_,i,_,h2=>by simp at h2
 |r :: R,t :: T,h,i,h1,h2=>by
  rw[rowsErr] at h
  by_cases h0:rowErr nodes r t=0
  ·rw[if_pos h0] at h
   cases i with
   |zero=>simpa using h0
   |succ i=>simpa using rowsErr_zero h i (by simpa using h1) (by simpa using h2)
  ·rw[if_neg h0] at h;exact absurd h h0
theorem syOk_iff {S:Sy}:sysErr S=0↔SyOk S:=by
 constructor
 ·intro h
  by_cases h1:PrOk S.f S.s S.a
  ·by_cases h2:200 < S.rows.length
   ·rw[sysErr_many h1 h2] at h;omega
   ·by_cases h3:S.targets.length=S.rows.length
    ·rw[sysErr_rows h1 h2 h3] at h
     exact⟨h1,by omega,h3,fun i a b=>rowErr_zero.1 (rowsErr_zero h i a b)⟩
    ·rw[sysErr_len h1 h2 h3] at h;omega
  ·rw[sysErr_pr h1] at h;omega
 ·rintro⟨h1,h2,h3,h4⟩
  rw[sysErr_rows h1 (by omega) h3]
  exact rowsErr_all (fun i a b=>rowErr_zero.2 (h4 i a b))
def Sy.n (S:Sy):Nat:=(10*S.f*S.f+2).toNat
theorem SyOk.nodes {S:Sy} (h:SyOk S):(S.n:Int)=10*S.f*S.f+2∧12≤S.n∧S.n≤642:=by
 obtain⟨⟨h1,h2,_⟩,_⟩:=h
 have a:=Int.mul_le_mul (show 10*S.f≤80 by omega) h2 (by omega) (by omega)
 have b:=Int.mul_le_mul (show 10≤10*S.f by omega) h1 (by omega) (by omega)
 unfold Sy.n;omega
theorem asc_len {S:List (Int × Int)} {nodes:Int} (h:AscA S) (hr:∀ c∈S,ShOk nodes c):S.length=0∨(S.length:Int)≤nodes:=by
 rcases Nat.eq_zero_or_pos S.length with e|e
 ·exact .inl e
 ·have:=asc_le h (k:=S.length-1) (by omega) (fun i hi _=>hr _ (List.getElem_mem _))
  exact .inr (by omega)
theorem SyOk.row {S:Sy} (h:SyOk S) {r:Rw} (hr:r∈S.rows):(∀ c∈r.sh,ShOk S.n c)∧(1≤r.weight∧r.weight≤100)∧ShW r.sh∧r.sh.length≤1000∧sumI r.sh=840:=by
 obtain⟨i,hi,rfl⟩:=List.getElem_of_mem hr
 have hn:=h.nodes
 obtain⟨h1,h2⟩:=h.2.2.2 i hi (by have:=h.2.2.1;omega)
 have hsh:∀ c∈S.rows[i].sh,ShOk S.n c:=fun c hc=>by rw[hn.1];exact h2.1 c hc
 have hl:=asc_len h1 hsh
 exact⟨hsh,h2.2.2.1,h2.shw,by omega,h2.2.1⟩
theorem SyOk.target {S:Sy} (h:SyOk S) {t:Int} (ht:t∈S.targets):-4294967296≤t∧t≤4294967296:=by
 obtain⟨i,hi,rfl⟩:=List.getElem_of_mem ht
 exact (h.2.2.2 i (by have:=h.2.2.1;omega) hi).2.2.2.2
theorem SyOk.len {S:Sy} (h:SyOk S):SyLen S:=⟨by have:=h.2.1;omega,by have:=h.2.2.1;have:=h.2.1;omega,fun r hr=>by have:=(h.row hr).2.2.2.1;omega⟩
def addT (o:List Int) (c:Int × Int):List Int:=o.set c.1.toNat (o.getD c.1.toNat 0+c.2)
def spread (o:List Int) (T:List (Int × Int)):List Int:=T.foldl addT o
theorem addT_len (o:List Int) (c:Int × Int):(addT o c).length=o.length:=by simp[addT]
theorem spread_len:∀ (T:List (Int × Int)) (o:List Int),(spread o T).length=o.length
 |[],o=>rfl
 |c :: T,o=>by rw[show spread o (c :: T)=spread (addT o c) T from rfl,spread_len T,addT_len]
theorem spread_snoc (o:List Int) (T:List (Int × Int)) (c:Int × Int):spread o (T ++ [c])=addT (spread o T) c:=by simp[spread]
theorem spread_append (o:List Int) (T U:List (Int × Int)):spread o (T ++ U)=spread (spread o T) U:=by simp[spread]
def absS (T:List (Int × Int)):Nat:=(T.map (fun c=>c.2.natAbs)).sum
theorem addT_bd {B:Int} {o:List Int} {c:Int × Int} (h:Bd B o) (hB:0≤B):Bd (B+c.2.natAbs) (addT o c):=by
 have:=h.get hB c.1.toNat
 exact (h.mono (by omega)).set _ (by omega)
theorem spread_bd:∀ (T:List (Int × Int)) {B:Int} {o:List Int},Bd B o→0≤B→Bd (B+absS T) (spread o T)
 |[],B,o,h,hB=>by simpa[absS,spread] using h
 |c :: T,B,o,h,hB=>by
  have:=spread_bd T (addT_bd (c:=c) h hB) (by omega)
  rw[show spread o (c :: T)=spread (addT o c) T from rfl]
  refine this.mono ?_
  simp only[absS,List.map_cons,List.sum_cons];omega
theorem absS_append (T U:List (Int × Int)):absS (T ++ U)=absS T+absS U:=by simp[absS]
theorem absS_row {M:Int} {p:Rw × Int} (h:TermOk M p) (h2:sumI p.1.sh=840):absS (rowT p)≤721554505728000:=by
 have hpb:=fprod_bd (a:=p.1.weight) (b:=p.2) (A:=100) (B:=8589934592) (by have:=h.2.1;omega) h.2.1.2 h.2.2.1.1 h.2.2.1.2 (by omega)
 have key:∀ S:List (Int × Int),(∀ c∈S,0≤c.2)→((absS (S.map (fun c=>(c.1,c.2*(p.1.weight*p.2)))):Nat):Int)≤sumI S*858993459200:=by
  intro S
  induction S with
  |nil=>intro _;simp[absS,sumI]
  |cons c S ih=>
   intro h0
   have i1:=ih (fun c hc=>h0 c (by simp[hc]))
   have i2:=mulw_bd (w:=c.2) (d:=p.1.weight*p.2) (B:=858993459200) (h0 c (by simp)) (by omega) (by omega)
   have e1:absS ((c :: S).map (fun c=>(c.1,c.2*(p.1.weight*p.2))))=(c.2*(p.1.weight*p.2)).natAbs+absS (S.map (fun c=>(c.1,c.2*(p.1.weight*p.2)))):=by simp[absS]
   have e2:sumI (c :: S)=c.2+sumI S:=by simp[sumI]
   rw[e1,e2,Int.add_mul];omega
 have:=key p.1.sh (fun c hc=>by have:=(h.1 c hc).2;omega)
 rw[h2] at this
 unfold rowT;omega
theorem absS_all {M:Int}:∀ {RF:List (Rw × Int)},(∀ p∈RF,TermOk M p∧sumI p.1.sh=840)→absS (tAll RF)≤721554505728000*RF.length
 |[],_=>by simp[tAll,absS]
 |p :: RF,h=>by
  have i:=absS_all (RF:=RF) (fun p hp=>h p (by simp[hp]))
  have j:=absS_row (h p (by simp)).1 (h p (by simp)).2
  rw[show tAll (p :: RF)=rowT p ++ tAll RF by simp[tAll],absS_append]
  simp only[List.length_cons];omega
theorem wrap_map {o:List Int} (h:Bd 9223372036854775807 o):o.map wrap64=o:=by
 have h2:o.map wrap64=o.map id:=List.map_congr_left (fun x hx=>by
  have:=h x hx
  exact IntWalk.wrap64_in x (by omega))
 rw[h2,List.map_id]
theorem addT_wrap {o:List Int} {c:Int × Int}:(addT o c).map wrap64=(o.map wrap64).set c.1.toNat (wrap64 ((o.map wrap64).getD c.1.toNat 0+c.2)):=by
 unfold addT
 rw[List.map_set]
 congr 1
 have:(o.map wrap64).getD c.1.toNat 0=wrap64 (o.getD c.1.toNat 0):=by
  simp only[List.getD,List.getElem?_map]
  cases o[c.1.toNat]? with
  |none=>simp[wrap64]
  |some x=>simp
 rw[this]
 unfold wrap64;omega
open Go.RowKit Go.Grid Go.Shelf Go.Proofs
attribute [local go_sem] Oper.semAt_some
theorem IntsAt.alloc1 {w:World} {b o:Nat} {zs:List Int} (h:IntsAt w b o zs) (x:Obj):IntsAt (w.alloc x) b o zs:=fun j hj=>by
 obtain⟨h1,h2⟩:=h j hj
 exact⟨cell_kept h1 (World.grownBy_alloc w x none) (fun r e=>by cases e),(frozen_kept h1 (World.grownBy_alloc w x none) (fun r e=>by cases e)).trans h2⟩
theorem cterms_any (x0 x1 x2 x3 x4:Value) (f:Fn) (lb:Array Value) (w:World) :
  Calls Tryz.prog 69 #[.agg #[x0,x1,x2,x3,x4],.func f #[] lb] w fun e w'=>e=.returned (.func (.func 106) #[] #[.pointer (some ⟨w.heap.size,0,none⟩),.pointer (some ⟨w.heap.size+1,0,none⟩)])∧w'=(w.alloc (.cells #[x0,x1,x2,x3,x4] 27)).alloc (.cells #[.func f #[] lb] 100):=by
 go_enter Tryz.func69,Tryz.ntmps69
 go_wp2
 go_ret
 exact⟨rfl,rfl⟩
def rightL (S:Sy):List Int:=spread (List.replicate S.n 0) (tAll (S.rows.zip S.targets))
attribute [local go_sem] Oper.semAt_some
theorem mult1_any (k:Nat) (r:Rw) (q:Option Addr) (cap Bx:Nat) (p:Option Addr) (xc:Nat) (x:List Int) (w:World) (h4:w.cell? ⟨Bx,0,none⟩=some (.slice p x.length xc)) (hS:ShIn w q r.sh) (hc:r.sh.length≤cap) (hl:r.sh.length≤9223372036854775807) (hw:ShW r.sh) (hx:VecAt w p x) (hb:Bd 1099511627776 x) (hxl:x.length≤1000000000) :
  Calls Tryz.prog 70 #[.int .i64 k,rwv r q cap,.pointer (some ⟨Bx,0,none⟩)] w fun e w'=>e=.returned (.int .i64 (valL r.sh x))∧Below w.heap.size w w':=by
 have hrw:Hid (rwv r q cap=.agg #[.slice q r.sh.length cap,.int .i64 r.value,.int .i64 r.weight,.int .i64 r.report]):=zN rfl
 rw[hrw.out]
 obtain⟨V,hV⟩:∃ V,V=valL r.sh x:=⟨_,rfl⟩
 rw[←hV]
 have HV:=zN hV
 have hbx:Bx < w.heap.size:=zM _ _ h4
 have hne:¬ (Bx=w.heap.size):=by omega
 clear hV
 go_enter Tryz.func70,Tryz.ntmps70
 go_wp2_with fail
 rw[←hrw.out]
 refine (cvalue_any r q cap x p xc _ ?_ hc hl hw ?_ hb hxl).mono ?_
 ·exact hS.below (by repeat (first|(with_reducible first|assumption|exact zBr _ _|refine zBs ?_ (by first|omega|simp<;>omega) _|refine zBa ?_ (by first|omega|simp<;>omega) _|apply zBd)|assumption))
 ·exact hx.below (by repeat (first|(with_reducible first|assumption|exact zBr _ _|refine zBs ?_ (by first|omega|simp<;>omega) _|refine zBa ?_ (by first|omega|simp<;>omega) _|apply zBd)|assumption))
 rintro e w6 ⟨rfl,hb6⟩
 rw[←HV.out]
 rw[hrw.out]
 have HB7:Hid (Below w.heap.size w w6):=zN (Below.trans (by repeat (first|(with_reducible first|assumption|exact zBr _ _|refine zBs ?_ (by first|omega|simp<;>omega) _|refine zBa ?_ (by first|omega|simp<;>omega) _|apply zBd)|assumption)) (hb6.mono (by simp)))
 clear hb6 hS hx
 go_wp2
 go_ret
 exact⟨rfl,HB7.out⟩
def rfM (S:Sy) (x:List Int):List (Rw × Int):=S.rows.map (fun r=>(r,valL r.sh x))
def multL (S:Sy) (x:List Int):List Int:=spread (applyL S.s S.a x (edgesL S.f.toNat)) (tAll (rfM S x))
theorem cmult_no (S:Sy) (v:Value) (p:Option Addr) (x:List Int) (xc:Nat) (w:World) (hS:SysIn w v S) (hl:SyLen S) (h:sysErr S≠0) :
  Calls Tryz.prog 21 #[v,.slice p x.length xc] w fun e w'=>e=.returned (.tuple #[.slice none 0 0,.int .i64 (sysErr S)])∧Below w.heap.size w w':=by
 obtain⟨E,hE⟩:∃ E,E=sysErr S:=⟨_,rfl⟩
 have HE:=zN hE
 rw[←hE] at h ⊢
 have hbe:(E != 0)=true:=by rw[bne_iff_ne];exact h
 have HS:=zN hS
 obtain⟨p1,d1,p2,d2,rfl,_⟩:=hS
 clear hE
 go_enter Tryz.func21,Tryz.ntmps21
 go_wp2_with fail
 refine (ccheck_any S _ _ (HS.out.below (by repeat (first|(with_reducible first|assumption|exact zBr _ _|refine zBs ?_ (by first|omega|simp<;>omega) _|refine zBa ?_ (by first|omega|simp<;>omega) _|apply zBd)|assumption))) hl).mono ?_
 rintro e w1 ⟨rfl,hb1⟩
 rw[←HE.out]
 have hB:Below w.heap.size w w1:=Below.trans (by repeat (first|(with_reducible first|assumption|exact zBr _ _|refine zBs ?_ (by first|omega|simp<;>omega) _|refine zBa ?_ (by first|omega|simp<;>omega) _|apply zBd)|assumption)) (hb1.mono (by simp<;>omega))
 clear hb1
 go_wp2
 go_ret2
 exact⟨rfl,hB⟩
theorem cmult_vec (S:Sy) (v:Value) (p:Option Addr) (x:List Int) (xc:Nat) (w:World) (hS:SysIn w v S) (hok:SyOk S) (hV:VecAt w p x) (hxl:x.length≤1000000000) (h:¬ VecOk S.f S.s S.a x) :
  Calls Tryz.prog 21 #[v,.slice p x.length xc] w fun e w'=>e=.returned (.tuple #[.slice none 0 0,.int .i64 1])∧Below w.heap.size w w':=by
 have hE:sysErr S=0:=syOk_iff.2 hok
 have HS:=zN hS
 obtain⟨p1,d1,p2,d2,rfl,_⟩:=hS
 go_enter Tryz.func21,Tryz.ntmps21
 go_wp2_with fail
 refine (ccheck_any S _ _ (HS.out.below (by repeat (first|(with_reducible first|assumption|exact zBr _ _|refine zBs ?_ (by first|omega|simp<;>omega) _|refine zBa ?_ (by first|omega|simp<;>omega) _|apply zBd)|assumption))) hok.len).mono ?_
 rintro e w1 ⟨rfl,hb1⟩
 rw[hE]
 have hB:Below w.heap.size w w1:=Below.trans (by repeat (first|(with_reducible first|assumption|exact zBr _ _|refine zBs ?_ (by first|omega|simp<;>omega) _|refine zBa ?_ (by first|omega|simp<;>omega) _|apply zBd)|assumption)) (hb1.mono (by simp<;>omega))
 have c0:w1.cell? ⟨w.heap.size,0,none⟩=some (.int .i64 S.f):=zP hb1 (by simp[zO,zJ,zQ])
 have c1:w1.cell? ⟨w.heap.size,1,none⟩=some (.int .i64 S.s):=zP hb1 (by simp[zO,zJ,zQ])
 have c2:w1.cell? ⟨w.heap.size,2,none⟩=some (.int .i64 S.a):=zP hb1 (by simp[zO,zJ,zQ])
 have c5:w1.cell? ⟨w.heap.size+1,0,none⟩=some (.slice p x.length xc):=zP hb1 (by simp[zO,zJ,zQ])
 clear hb1
 go_wp2_with fail
 refine (apply_no S.f S.s S.a p x xc _ (hV.below hB) hxl h).mono ?_
 rintro e w2 ⟨rfl,hb2⟩
 have hB2:=hB.trans (hb2.mono hB.size)
 clear hb2 hB c0 c1 c2 c5
 go_wp2
 go_ret2
 exact⟨rfl,hB2.alloc hB2.size _⟩
attribute [local go_sem] Oper.semAt_some
theorem cmult_ok (S:Sy) (v:Value) (p:Option Addr) (x:List Int) (xc:Nat) (w:World) (hT:HasTab w) (hS:SysIn w v S) (hok:SyOk S) (hV:VecAt w p x) (hvo:VecOk S.f S.s S.a x) :
  Calls Tryz.prog 21 #[v,.slice p x.length xc] w fun e w'=>∃ N,e=.returned (.tuple #[.slice (some ⟨N,0,none⟩) S.n S.n,.int .i64 0])∧IntsAt w' N 0 (multL S x)∧w.heap.size≤N∧Below w.heap.size w w':=by
 have hE:sysErr S=0:=syOk_iff.2 hok
 have HS:=zN hS
 have HOK:=zN hok
 obtain⟨p1,d1,p2,d2,rfl,hd1,hd2,hR,hTg⟩:=hS
 have HR:=zN hR
 have HX:=zN hV
 obtain⟨hn3,hn4,hn5⟩:=hok.nodes
 have hxn:x.length=S.n:=by have:=hvo.2.1;omega
 obtain⟨n,hn⟩:∃ n,n=S.n:=⟨_,rfl⟩
 rw[←hn] at hn4 hn5 hxn ⊢
 have HN:=zN hn
 have hxb:Bd 1048576 x:=hvo.2.2
 have hfn:((S.f.toNat:Nat):Int)=S.f:=Int.toNat_of_nonneg (by have:=hok.1.1;omega)
 have HVO:Hid (VecOk (S.f.toNat:Nat) S.s S.a x):=zN (by rw[hfn];exact hvo)
 have HFN:=zN hfn
 have HXB:=zN hxb
 have HTB:=zN hT
 have HXN:=zN hxn
 clear hR hTg hn hn3 hok hvo hxb hV hT hfn hxn
 refine (callsIn_wide (n:=9)).1 ?_
 refine callsIn_of_wp_marks Tryz.func21 rfl trivial ?_ rfl
 simp only[Tryz.ntmps21,List.size_toArray,List.length_cons,List.length_nil,Nat.reduceAdd,Nat.reduceSub,Array.replicate_succ,Array.replicate_zero,List.push_toArray,List.append_toArray,List.nil_append,List.cons_append]
 refine wpIn_wide.2 ?_
 go_wp2_with fail
 refine (ccheck_any S _ _ (HS.out.below (by repeat (first|(with_reducible first|assumption|exact zBr _ _|refine zBs ?_ (by first|omega|simp<;>omega) _|refine zBa ?_ (by first|omega|simp<;>omega) _|apply zBd)|assumption))) HOK.out.len).mono ?_
 rintro e w1 ⟨rfl,hb1⟩
 rw[hE]
 have hB:Below w.heap.size w w1:=Below.trans (by repeat (first|(with_reducible first|assumption|exact zBr _ _|refine zBs ?_ (by first|omega|simp<;>omega) _|refine zBa ?_ (by first|omega|simp<;>omega) _|apply zBd)|assumption)) (hb1.mono (by simp<;>omega))
 have c0:w1.cell? ⟨w.heap.size,0,none⟩=some (.int .i64 S.f):=zP hb1 (by simp[zO,zJ,zQ])
 have c1:w1.cell? ⟨w.heap.size,1,none⟩=some (.int .i64 S.s):=zP hb1 (by simp[zO,zJ,zQ])
 have c2:w1.cell? ⟨w.heap.size,2,none⟩=some (.int .i64 S.a):=zP hb1 (by simp[zO,zJ,zQ])
 have c3:w1.cell? ⟨w.heap.size,3,none⟩=some (.slice p1 S.rows.length d1):=zP hb1 (by simp[zO,zJ,zQ])
 have c4:w1.cell? ⟨w.heap.size,4,none⟩=some (.slice p2 S.targets.length d2):=zP hb1 (by simp[zO,zJ,zQ])
 have c5:w1.cell? ⟨w.heap.size+1,0,none⟩=some (.slice p x.length xc):=zP hb1 (by simp[zO,zJ,zQ])
 clear hb1
 have hszw:w.heap.size+1 < w1.heap.size:=zM _ _ c5
 go_wp2_with fail
 rw[←HFN.out]
 refine (apply_ok S.f.toNat S.s S.a p x xc _ (HTB.out.below hB) (HX.out.below hB) HVO.out).mono ?_
 rw[HFN.out]
 rintro e w3 ⟨N,rfl,hIN,hNw1,hb3⟩
 have hN3:N < w3.heap.size:=zM _ _ (hIN 0 (by unfold applyL;rw[applyTo_len _ _ _ _ _ (Nat.le_refl _),HXN.out];omega)).1
 have m0:=zP hb3 c0
 have m1:=zP hb3 c1
 have m2:=zP hb3 c2
 have m3:=zP hb3 c3
 have m4:=zP hb3 c4
 have m5:=zP hb3 c5
 have HB3:Hid (Below w.heap.size w w3):=zN (hB.trans (hb3.mono hB.size))
 have HA:=zN hIN
 have hs3:w.heap.size+1 < w3.heap.size:=zM _ _ m5
 have hs3a:w.heap.size < w3.heap.size:=by omega
 have HN2:Hid (w.heap.size+1 < N):=zN (by omega)
 clear hszw
 clear hIN hb3 hB c0 c1 c2 c3 c4 c5 hE
 rw[HXN.out]
 rw[HXN.out] at m5
 go_wp2_with fail
 refine (cterms_any _ _ _ _ _ _ _ _).mono ?_
 rintro e w2 ⟨rfl,hw2⟩
 obtain⟨B,hB⟩:∃ B,B=w3.heap.size:=⟨_,rfl⟩
 have hsz2:w2.heap.size=B+3:=by rw[hw2,hB];simp
 obtain⟨o0,ho0⟩:∃ o0,o0=applyL S.s S.a x (edgesL S.f.toNat):=⟨_,rfl⟩
 have hol0:o0.length=n:=by rw[ho0];unfold applyL;rw[applyTo_len _ _ _ _ _ (Nat.le_refl _),HXN.out]
 have hob:Bd 63000000000000000 o0:=by
  rw[ho0]
  have h1:=HVO.out
  have h2:=applyTo_bd (D:=edgesL S.f.toNat) ⟨h1.1.2.2.1,h1.1.2.2.2.1⟩ ⟨h1.1.2.2.2.2.1,h1.1.2.2.2.2.2⟩ h1.2.2 _ (Nat.le_refl _)
  have h3:=edges_len (n:=S.f.toNat) (by have:=h1.1.2.1;omega)
  exact h2.mono (by omega)
 have hI0:IntsAt w2 N 0 o0:=by
  rw[hw2,ho0]
  exact ((HA.out.alloc1 _).alloc1 _).alloc1 _
 have hb2:Below B w3 w2:=by rw[hw2,hB];exact (by repeat (first|(with_reducible first|assumption|exact zBr _ _|refine zBs ?_ (by first|omega|simp<;>omega) _|refine zBa ?_ (by first|omega|simp<;>omega) _|apply zBd)|assumption))
 have b1:w2.cell? ⟨B,0,none⟩=some (.slice (some ⟨N,0,none⟩) n n):=by rw[hw2,hB];exact (by simp[zO,zJ,zQ])
 have b2:w2.cell? ⟨B+1,3,none⟩=some (.slice p1 S.rows.length d1):=by rw[hw2,hB];exact (by simp[zO,zJ,zQ])
 have b3:w2.cell? ⟨B+2,0,none⟩=some (.func (.func 70) #[] #[.pointer (some ⟨w.heap.size+1,0,none⟩)]):=by rw[hw2,hB];exact (by simp[zO,zJ,zQ])
 simp only[World.size_alloc,zQ,Nat.reduceAdd]
 rw[←hB]
 clear hw2
 go_wp2
 refine (wpIn_wide (n:=9)).1 ?_
 have hNw:w.heap.size≤N:=by have:=HN2.out;omega
 have hN1:N≤w3.heap.size:=by omega
 have hNB:¬ (B=N):=by omega
 have hNB2:¬ (B+2=N):=by omega
 have hDl:N < w2.heap.size:=by omega
 have hzl:(rfM S x).length=S.rows.length:=by simp[rfM]
 have hzm:(rfM S x).map (·.1)=S.rows:=by simp[rfM,Function.comp_def]
 have HTO:Hid (∀ p∈rfM S x,TermOk n p∧sumI p.1.sh=840):=zN (fun p hp=>by
  unfold rfM at hp
  obtain⟨r,hr,rfl⟩:=List.mem_map.1 hp
  obtain⟨q1,q2,q3,q4,q5⟩:=HOK.out.row hr
  have q6:=q3.val_all HXB.out (by omega)
  rw[←HN.out] at q1
  exact⟨⟨q1,q2,⟨by show -8589934592≤valL r.sh x;omega,by show valL r.sh x≤8589934592;omega⟩,q4⟩,q5⟩)
 refine wpIn_rangeFunc_ownF (α:=TX n) rfl (by omega) (gf:=106) (lb:=#[.pointer (some ⟨B+1,0,none⟩),.pointer (some ⟨B+2,0,none⟩)]) rfl trivial (enters_of Tryz.func106 (by kernel_rfl) rfl)
  (encs:=fun x=>#[.int .i64 x.1.1,.int .i64 x.1.2]) (Kp:=KpB N (B+2)) (S:=fun ys=>ys.map (·.1)=tAll (rfM S x)) (Sp:=fun _=>True) (N:=(tAll (rfM S x)).length) (w0:=w2)
  ?seq (fun h k=>h.trans k) (KpB.put (by omega) (by omega)) (zBr _ _) (fun _=>rfl)
  (fun pre W=>(IntsAt W N 0 ((spread o0 (pre.map (·.1))).map wrap64)∧W.cell? ⟨B,0,none⟩=some (.slice (some ⟨N,0,none⟩) n n))∧Below N w3 W)
  (fun _ _ _=>False)
  (OwnFrom.and (Own.from (fun s A B row hs hg hr=>⟨fun j hj=>⟨cell_kept (hs.1 j hj).1 hg hr,(frozen_kept (hs.1 j hj).1 hg hr).trans (hs.1 j hj).2⟩,cell_kept hs.2 hg hr⟩) _) (ownFrom_below (by omega) (by omega)))
  (fun _ _ _ _ _ hs _ _=>hs)
  ⟨⟨by rw[show spread o0 (([]:List (TX n)).map (·.1))=o0 from rfl,wrap_map (hob.mono (by omega))];exact hI0,b1⟩,hb2.mono (by omega)⟩
  (fun x=>{ tmps:=#[.agg #[.int .i64 S.f,.int .i64 S.s,.int .i64 S.a,.slice p1 S.rows.length d1,.slice p2 S.targets.length d2],.slice p n xc,.pointer (some ⟨w.heap.size,0,none⟩),.pointer (some ⟨w.heap.size+1,0,none⟩),.slice none 0 0,.int .i64 0,.int .i64 0,.pointer (some ⟨B,0,none⟩),.int .i64 0,.int .i64 x.1.1,.int .i64 x.1.2,.agg #[.int .i64 S.f,.int .i64 S.s,.int .i64 S.a,.slice p1 S.rows.length d1,.slice p2 S.targets.length d2],.int .i64 0,.int .i64 0,.bool false,undef,.tuple #[.slice (some ⟨N,0,none⟩) n n,.int .i64 0],.pointer (some ⟨w.heap.size,0,none⟩),.agg #[.int .i64 S.f,.int .i64 S.s,.int .i64 S.a],.slice p n xc,.tuple #[.slice (some ⟨N,0,none⟩) n n,.int .i64 0],.slice (some ⟨N,0,none⟩) n n,.int .i64 0,.int .i64 0,.bool false,undef,.agg #[.int .i64 S.f,.int .i64 S.s,.int .i64 S.a,.slice p1 S.rows.length d1,.slice p2 S.targets.length d2],.func (.func 70) #[] #[.pointer (some ⟨w.heap.size+1,0,none⟩)],.func (.func 106) #[] #[.pointer (some ⟨B+1,0,none⟩),.pointer (some ⟨B+2,0,none⟩)],.int .i64 x.1.1,.int .i64 x.1.2,undef,undef,undef,undef,undef,undef,undef,undef],defers:=[] })
  ?assign ?body ?done ?stop
 case seq=>
  intro l J Jx W hW hJ hJx hY h0
  have hWs:=hW.size
  have hN3w:Below N w3 W:=(hb2.mono (by omega)).trans (hW.mono (by omega))
  have hwW:Below w.heap.size w W:=HB3.out.trans (hN3w.mono hNw)
  exact terms1M_in (M:=n) 8 l (B+1) (B+2) (w.heap.size+1) N (by omega) (rfM S x) p1 d1 J Jx w W hNw (by omega) hwW (by rw[hzm];exact HR.out)
   (by rw[hzl];exact zP hW b2) (zP hW b3)
   (fun p hp=>(HTO.out p hp).1)
   (by rw[hzl];exact HOK.out.2.1)
   (fun k hk W' q cap hbel hsh hcap=>by
    have hkR:k < S.rows.length:=by omega
    have e:(rfM S x)[k]=(S.rows[k],valL S.rows[k].sh x):=by simp[rfM]
    rw[e] at hsh hcap ⊢
    dsimp only at hsh hcap ⊢
    obtain⟨q1,q2,q3,q4,q5⟩:=HOK.out.row (List.getElem_mem hkR)
    have hw3W:Below N w3 W':=hN3w.trans hbel
    have hwW2:Below w.heap.size w W':=HB3.out.trans (hw3W.mono hNw)
    have hM:=hw3W.block (w.heap.size+1) (by have:=HN2.out;omega)
    have hc5:W'.cell? ⟨w.heap.size+1,0,none⟩=some (.slice p x.length xc):=by rw[World.cell?_of_block hM,HXN.out];exact m5
    exact mult1_any k _ q cap (w.heap.size+1) p xc x W' hc5 hsh hcap (by omega) q3 (HX.out.below hwW2) (HXB.out.mono (by omega)) (by have:=HXN.out;omega))
   hJ hY h0
 case assign=>
  clear hB hsz2 hzl hzm hol0 ho0
  intro l x W K hK
  gi_wp2
  exact hK
 case body=>
  have HOL:=zN hol0
  clear hsz2 hzl hzm hol0 ho0 hI0 b1 b2 b3 hb2
  rintro l pre ⟨⟨x0,x1⟩,hx0,hx1⟩ W ⟨⟨hI,hc⟩,hB'⟩ _
  dsimp only at hx0 hx1 ⊢
  obtain⟨j,rfl⟩:∃ j:Nat,x0=(j:Int):=⟨x0.toNat,by omega⟩
  obtain⟨o,ho⟩:∃ o,o=spread o0 (pre.map (·.1)):=⟨_,rfl⟩
  rw[←ho] at hI
  have hol:(o.map wrap64).length=n:=by rw[ho,List.length_map,spread_len,HOL.out]
  have hj:j < (o.map wrap64).length:=by omega
  obtain⟨k1,k2⟩:=hI j hj
  rw[Nat.zero_add] at k1 k2
  have HU:Hid ((spread o0 ((pre ++ [⟨((j:Int),x1),hx0,hx1⟩]:List (TX n)).map (·.1))).map wrap64=(o.map wrap64).set j (wrap64 ((o.map wrap64)[j]+x1))):=zN (by
   rw[List.map_append,List.map_cons,List.map_nil,spread_snoc,←ho,addT_wrap]
   dsimp only
   rw[Int.toNat_natCast,i64_get hj])
  obtain⟨u,hu⟩:∃ u,u=(o.map wrap64)[j]:=⟨_,rfl⟩
  rw[←hu] at k1 HU
  have hj0:(0:Int)≤(j:Int):=by omega
  have HI:=zN hI
  have HBq:=zN hB'
  clear ho hI hu hB' hB hol
  gi_wp2
  have hNW:N≤W.heap.size:=by have:=HBq.out.size;omega
  refine⟨KeepsOthers.setCell _ _ _,⟨(zBr N W).setCell (p:=⟨N,j,none⟩) (Nat.le_refl _) _,fun v e=>(grownBy_setCell _ _ _ _).cell e (by simp;omega)⟩,⟨?_,?_⟩,HBq.out.setCell (p:=⟨N,j,none⟩) (Nat.le_refl _) _⟩
  ·rw[HU.out]
   have:=HI.out.set j (wrap64 (u+x1));rwa[Nat.zero_add] at this
  ·exact (grownBy_setCell _ _ _ _).cell hc (by simp;omega)
 case done=>
  clear hB hsz2 hzm
  rintro D ys W hD hys ⟨⟨hI,hc⟩,hB'⟩ hK
  have HH:=zN (And.intro hys (And.intro hol0 (And.intro hzl ho0)))
  clear hys hol0 hzl ho0
  go_wp2
  refine⟨by simp,.inl ⟨_,_,rfl,run_takeDeferred hK,?_⟩⟩
  have hg:=grownBy_putObj' W D (.deferred none)
  have hnc:∀ r,some D=some r→∃ o:Obj,W.heap[r]?=some o∧o.isCells=false:=fun r e=>by cases e;exact⟨_,hK,rfl⟩
  have hbK:Below N W (W.putObj D (.deferred none)):=belowK_b (w:=w2) (by omega) W D _ _ hD hK rfl rfl
  refine⟨_,results_tmp2 rfl _ _ _,N,rfl,?_,hNw,HB3.out.trans ((hB'.trans hbK).mono hNw)⟩
  obtain⟨hys,hol0,hzl,ho0⟩:=HH.out
  have e:(spread o0 (ys.map (·.1))).map wrap64=multL S x:=by
   rw[hys]
   unfold multL
   rw[←ho0]
   refine wrap_map ?_
   have h2:=spread_bd (tAll (rfM S x)) hob (by omega)
   have h3:=absS_all (M:=n) (RF:=rfM S x) HTO.out
   have h4:(rfM S x).length≤200:=by rw[hzl];exact HOK.out.2.1
   exact h2.mono (by omega)
  rw[←e]
  exact fun j hj=>⟨cell_kept (hI j hj).1 hg hnc,(frozen_kept (hI j hj).1 hg hnc).trans (hI j hj).2⟩
 case stop=>
  rintro D c pre W _ _ h _
  exact h.elim
theorem SyOk.zipT {S:Sy} (h:SyOk S):∀ p∈S.rows.zip S.targets,TermOk S.n p∧sumI p.1.sh=840:=fun p hp=>by
 obtain⟨r,t⟩:=p
 have h1:=List.of_mem_zip hp
 obtain⟨q1,q2,q3,q4,q5⟩:=h.row h1.1
 have q6:=h.target h1.2
 exact⟨⟨q1,q2,⟨by show -8589934592≤t;omega,by show t≤8589934592;omega⟩,q4⟩,q5⟩
theorem vecOk_n {S:Sy} (h:SyOk S) {x:List Int} (hv:VecOk S.f S.s S.a x):x.length=S.n:=by have:=h.nodes;have:=hv.2.1;omega
theorem apL_len (s a:Int) (x:List Int) (D:List I2):(applyL s a x D).length=x.length:=by unfold applyL;rw[applyTo_len _ _ _ _ _ (Nat.le_refl _)]
theorem multL_len {S:Sy} (x:List Int):(multL S x).length=x.length:=by unfold multL;rw[spread_len,apL_len]
theorem SyOk.rfT {S:Sy} (h:SyOk S) {x:List Int} (hx:Bd 1048576 x):∀ p∈rfM S x,TermOk S.n p∧sumI p.1.sh=840:=fun p hp=>by
 unfold rfM at hp
 obtain⟨r,hr,rfl⟩:=List.mem_map.1 hp
 obtain⟨q1,q2,q3,q4,q5⟩:=h.row hr
 have q6:=q3.val_all hx (by omega)
 exact⟨⟨q1,q2,⟨by show -8589934592≤valL r.sh x;omega,by show valL r.sh x≤8589934592;omega⟩,q4⟩,q5⟩
theorem applyL_bd {f:Nat} {s a:Int} {x:List Int} (h:VecOk f s a x):Bd 63000000000000000 (applyL s a x (edgesL f)):=by
 have h2:=applyTo_bd (D:=edgesL f) ⟨h.1.2.2.1,h.1.2.2.2.1⟩ ⟨h.1.2.2.2.2.1,h.1.2.2.2.2.2⟩ h.2.2 _ (Nat.le_refl _)
 have h3:=edges_len (n:=f) (by have:=h.1.2.1;omega)
 exact h2.mono (by omega)
theorem vecOk_nat {S:Sy} {x:List Int} (hv:VecOk S.f S.s S.a x):VecOk (S.f.toNat:Nat) S.s S.a x:=by rw[Int.toNat_of_nonneg (by have:=hv.1.1;omega)];exact hv
theorem multL_bd {S:Sy} (h:SyOk S) {x:List Int} (hv:VecOk S.f S.s S.a x):Bd 300000000000000000 (multL S x):=by
 have h2:=spread_bd (tAll (rfM S x)) (applyL_bd (vecOk_nat hv)) (by omega)
 have h3:=absS_all (h.rfT hv.2.2)
 have h4:(rfM S x).length≤200:=by simp[rfM];exact h.2.1
 exact h2.mono (by omega)
def lessL (r m:List Int):List Int:=List.zipWith (fun a b=>a-b) r m
def resL (S:Sy) (x:List Int):List Int:=lessL (rightL S) (multL S x)
def lessTo (r m:List Int) (k:Nat):List Int:=(lessL r m).take k ++ r.drop k
theorem lessL_len {r m:List Int} (h:m.length=r.length):(lessL r m).length=r.length:=by simp[lessL];omega
def eT (s:Int) (e:I2):List (Int × Int):=[(e.1,s),(e.2,s)]
def rowD (r:Rw):List (Int × Int):=r.sh.map (fun c=>(c.1,r.weight*c.2*c.2))
def diagE (S:Sy):List Int:=spread (List.replicate S.n S.a) ((edgesL S.f.toNat).flatMap (eT S.s))
def diagL (S:Sy):List Int:=spread (diagE S) (S.rows.flatMap rowD)
def fillA (a:Int) (n k:Nat):List Int:=List.replicate k a ++ List.replicate (n-k) 0
end Go.Proofs.YtojkamfabapcoaaGreatDoor
