import Derived.Test.YtednaajanciabaaGreatDoorKBPan
import Derived.Test.YtednaajanciabaaGreatDoorKBFl
import Derived.Test.YtednaajanciabaaGreatDoorKRegion
import Derived.Deep.CutBlock
set_option maxRecDepth 100000
set_option maxHeartbeats 8000000
set_option linter.unusedSimpArgs false
set_option linter.unusedVariables false
namespace Go.Proofs.YtednaajanciabaaGreatDoor
open Go.RowKit Go.Grid Go.Buddy
theorem bcheck_any (p:Option Addr) (cap m:Nat) (L:List BR) (hl:L.length=m) (hm5:m≤50000) (k:Ctl) (w:World) (hT:HasTab w) (hB:HasBnd w) (hV:VecB w p L) :
  Calls Tryz.prog 12 #[.slice p m cap,ctv k] w fun e w'=>∃ v,e=.returned (.tuple #[v,.int .i64 (chkE k L)])∧Below w.heap.size w w'∧FlAt w' v (chkL k L):=by
 have hm:m≤100000:=by omega
 have HM5:=zN hm5
 have HCL:Hid (chkL k L=if chkE k L=0 then sort2 (outC k.fr.toNat L k.bd 12) else []):=zN rfl
 generalize chkL k L=CL at *
 clear hm5
 have HT:=zN hT
 have HB:=zN hB
 have HV:=zN hV
 have HL:=zN hl
 have HE:Hid (chkE k L=if (1≤k.fr∧k.fr≤8)∧limB k.bd=false then exE L else 1):=zN rfl
 have HCK:Hid (ctv k=ctv k):=zN rfl
 generalize chkE k L=er at *
 obtain⟨hops,st,sp,th,bd,fr,en,lv⟩:=k
 unfold ctv
 dsimp only at HE HCL ⊢
 clear hT hB hV hl HCK
 have HBA:Hid (∀ j (h:j < (bdL bd).length),(w.alloc (.cells #[.int .i64 hops,.int .i64 (st 0),.int .i64 (st 1),.int .i64 (st 2),.int .i64 (st 3),.int .i64 (st 4),.int .i64 (st 5),.int .i64 (st 6),.int .i64 (st 7),.int .i64 (st 8),.int .i64 (st 9),.int .i64 (st 10),.int .i64 (st 11),.int .i64 (sp 0),.int .i64 (sp 1),.int .i64 (sp 2),.int .i64 (sp 3),.int .i64 (sp 4),.int .i64 (sp 5),.int .i64 (sp 6),.int .i64 (sp 7),.int .i64 (sp 8),.int .i64 (sp 9),.int .i64 (sp 10),.int .i64 (sp 11),.int .i64 th,.int .i64 (bd 0),.int .i64 (bd 1),.int .i64 (bd 2),.int .i64 (bd 3),.int .i64 (bd 4),.int .i64 (bd 5),.int .i64 (bd 6),.int .i64 (bd 7),.int .i64 (bd 8),.int .i64 (bd 9),.int .i64 (bd 10),.int .i64 (bd 11),.int .i64 fr,.int .i64 en,.int .i64 lv] 29)).cell? ⟨w.heap.size,26+j,none⟩=some (.int .i64 (bdL bd)[j])):=zN (fun j hj=>by
  have:j < 12:=hj
  have hc:j=0∨j=1∨j=2∨j=3∨j=4∨j=5∨j=6∨j=7∨j=8∨j=9∨j=10∨j=11:=by omega
  rcases hc with rfl|rfl|rfl|rfl|rfl|rfl|rfl|rfl|rfl|rfl|rfl|rfl<;>(simp only[bdL,List.getElem_cons_zero,List.getElem_cons_succ];exact (by simp[zO,zJ,zQ])))
 have HBB:Hid (Below w.heap.size w (w.alloc (.cells #[.int .i64 hops,.int .i64 (st 0),.int .i64 (st 1),.int .i64 (st 2),.int .i64 (st 3),.int .i64 (st 4),.int .i64 (st 5),.int .i64 (st 6),.int .i64 (st 7),.int .i64 (st 8),.int .i64 (st 9),.int .i64 (st 10),.int .i64 (st 11),.int .i64 (sp 0),.int .i64 (sp 1),.int .i64 (sp 2),.int .i64 (sp 3),.int .i64 (sp 4),.int .i64 (sp 5),.int .i64 (sp 6),.int .i64 (sp 7),.int .i64 (sp 8),.int .i64 (sp 9),.int .i64 (sp 10),.int .i64 (sp 11),.int .i64 th,.int .i64 (bd 0),.int .i64 (bd 1),.int .i64 (bd 2),.int .i64 (bd 3),.int .i64 (bd 4),.int .i64 (bd 5),.int .i64 (bd 6),.int .i64 (bd 7),.int .i64 (bd 8),.int .i64 (bd 9),.int .i64 (bd 10),.int .i64 (bd 11),.int .i64 fr,.int .i64 en,.int .i64 lv] 29))):=zN ((zBr _ _).alloc (Nat.le_refl _) _)
 go_enter Tryz.func12,Tryz.ntmps12
 go_wp2_with fail
 refine (freqB_any _ _).mono ?_
 rintro e w1 ⟨rfl,hb1⟩
 have HB1:=zN (HBB.out.trans (hb1.mono HBB.out.size))
 have HC1:Hid (∀ j (h:j < (bdL bd).length),w1.cell? ⟨w.heap.size,26+j,none⟩=some (.int .i64 (bdL bd)[j])):=zN (fun j hj=>zP hb1 (HBA.out j hj))
 have c38:w1.cell? ⟨w.heap.size,38,none⟩=some (.int .i64 fr):=zP hb1 (by simp[zO,zJ,zQ])
 generalize Value.agg #[.int .i64 hops,.int .i64 (st 0),.int .i64 (st 1),.int .i64 (st 2),.int .i64 (st 3),.int .i64 (st 4),.int .i64 (st 5),.int .i64 (st 6),.int .i64 (st 7),.int .i64 (st 8),.int .i64 (st 9),.int .i64 (st 10),.int .i64 (st 11),.int .i64 (sp 0),.int .i64 (sp 1),.int .i64 (sp 2),.int .i64 (sp 3),.int .i64 (sp 4),.int .i64 (sp 5),.int .i64 (sp 6),.int .i64 (sp 7),.int .i64 (sp 8),.int .i64 (sp 9),.int .i64 (sp 10),.int .i64 (sp 11),.int .i64 th,.int .i64 (bd 0),.int .i64 (bd 1),.int .i64 (bd 2),.int .i64 (bd 3),.int .i64 (bd 4),.int .i64 (bd 5),.int .i64 (bd 6),.int .i64 (bd 7),.int .i64 (bd 8),.int .i64 (bd 9),.int .i64 (bd 10),.int .i64 (bd 11),.int .i64 fr,.int .i64 en,.int .i64 lv]=cv at *
 clear HBA hb1
 by_cases hfr:1≤fr∧fr≤8
 rotate_left
 ·have hdf:decide (1≤fr∧fr≤8)=false:=zDf hfr
  have HEE:Hid (er=1):=zN (by rw[HE.out,if_neg (fun h=>hfr h.1)])
  rw[hdf]
  clear hdf hfr
  go_wp2
  go_ret2
  exact⟨_,by rw[HEE.out];rfl,HB1.out,by rw[HCL.out,HEE.out];exact FlAt.nil _⟩
 ·have hdf:decide (1≤fr∧fr≤8)=true:=zDt hfr
  rw[hdf]
  have HFR:=zN hfr
  have HCI:=zN (contains_int (some ⟨w.heap.size,26,none⟩) (bdL bd) 12 12 w1 rfl ⟨w.heap.size,26,(fun _=>rfl),HC1.out⟩ (by omega) 38 (fun n=>decide (n < 0∨10000 < n)) (Go.Proofs.enters_of Tryz.func38 (by kernel_rfl) rfl) (fun x _ w' _=>lim_any x w'))
  have HLB:Hid (limB bd=(bdL bd).any (fun n=>decide (n < 0∨10000 < n))):=zN rfl
  generalize (bdL bd).any (fun n=>decide (n < 0∨10000 < n))=lb at *
  clear hdf hfr
  go_wp2_with fail
  refine HCI.out.mono ?_
  rintro e w2 ⟨rfl,hb2⟩
  have HB2:=zN (HB1.out.trans (hb2.mono HB1.out.size))
  have d38:=zP hb2 c38
  have HC2:Hid (∀ j (h:j < (bdL bd).length),w2.cell? ⟨w.heap.size,26+j,none⟩=some (.int .i64 (bdL bd)[j])):=zN (fun j hj=>zP hb2 (HC1.out j hj))
  clear hb2 c38 HC1 HCI
  cases lb with
  |true=>
   have HEE:Hid (er=1):=zN (by rw[HE.out,if_neg (fun h=>by rw[HLB.out] at h;cases h.2)])
   go_wp2
   go_ret2
   exact⟨_,by rw[HEE.out];rfl,HB2.out,by rw[HCL.out,HEE.out];exact FlAt.nil _⟩
  |false=>
   have HEE:Hid (er=exE L):=zN (by rw[HE.out,if_pos ⟨HFR.out,HLB.out⟩])
   go_wp2_with fail
   refine (examine_any p cap m L HL.out (by omega) w2 (HB.out.below HB2.out) (HV.out.below HB2.out)).mono ?_
   rintro e w3 ⟨rfl,hb3⟩
   rw[←HEE.out]
   have HB3:=zN (HB2.out.trans (hb3.mono HB2.out.size))
   have e38:=zP hb3 d38
   have HC3:Hid (∀ j (h:j < (bdL bd).length),w3.cell? ⟨w.heap.size,26+j,none⟩=some (.int .i64 (bdL bd)[j])):=zN (fun j hj=>zP hb3 (HC2.out j hj))
   clear hb3 d38 HC2
   by_cases h0:er=0
   ·subst h0
    have HEX:Hid (exE L=0):=zN HEE.out.symm
    clear HEE HE
    have k0:w3.cell? ⟨w.heap.size,26,none⟩=some (.int .i64 (bd 0)):=HC3.out 0 (show 0 < 12 by decide)
    have k1:w3.cell? ⟨w.heap.size,27,none⟩=some (.int .i64 (bd 1)):=HC3.out 1 (show 1 < 12 by decide)
    have k2:w3.cell? ⟨w.heap.size,28,none⟩=some (.int .i64 (bd 2)):=HC3.out 2 (show 2 < 12 by decide)
    have k3:w3.cell? ⟨w.heap.size,29,none⟩=some (.int .i64 (bd 3)):=HC3.out 3 (show 3 < 12 by decide)
    have k4:w3.cell? ⟨w.heap.size,30,none⟩=some (.int .i64 (bd 4)):=HC3.out 4 (show 4 < 12 by decide)
    have k5:w3.cell? ⟨w.heap.size,31,none⟩=some (.int .i64 (bd 5)):=HC3.out 5 (show 5 < 12 by decide)
    have k6:w3.cell? ⟨w.heap.size,32,none⟩=some (.int .i64 (bd 6)):=HC3.out 6 (show 6 < 12 by decide)
    have k7:w3.cell? ⟨w.heap.size,33,none⟩=some (.int .i64 (bd 7)):=HC3.out 7 (show 7 < 12 by decide)
    have k8:w3.cell? ⟨w.heap.size,34,none⟩=some (.int .i64 (bd 8)):=HC3.out 8 (show 8 < 12 by decide)
    have k9:w3.cell? ⟨w.heap.size,35,none⟩=some (.int .i64 (bd 9)):=HC3.out 9 (show 9 < 12 by decide)
    have k10:w3.cell? ⟨w.heap.size,36,none⟩=some (.int .i64 (bd 10)):=HC3.out 10 (show 10 < 12 by decide)
    have k11:w3.cell? ⟨w.heap.size,37,none⟩=some (.int .i64 (bd 11)):=HC3.out 11 (show 11 < 12 by decide)
    by_cases h3:m≤3
    ·have hd3:decide ((m:Int)≤3)=true:=zDt (by omega)
     clear k0 k1 k2 k3 k4 k5 k6 k7 k8 k9 k10 k11
     go_wp2
     go_ret2
     exact⟨_,rfl,HB3.out,by rw[HCL.out,if_pos trivial,outC_few (by rw[HL.out];exact h3),sort2_nil];exact FlAt.nil _⟩
    ·have hd3:decide ((m:Int)≤3)=false:=zDf (by omega)
     have hEQ:=eq12 bd w3
     have HZ:Hid (zB bd=zB bd):=zN rfl
     generalize hzb:zB bd=zb at hEQ
     have HZB:=zN hzb
     clear HZ hzb
     cases zb with
     |true=>
      go_wp2
      go_ret2
      exact⟨_,rfl,HB3.out,by rw[HCL.out,if_pos trivial,outC_zero HZB.out,sort2_nil];exact FlAt.nil _⟩
     |false=>
      obtain⟨h1,h8⟩:=HFR.out
      obtain⟨n,rfl⟩:∃ n:Nat,fr=(n:Int):=⟨fr.toNat,by omega⟩
      replace h1:1≤n:=by omega
      replace h8:n≤8:=by omega
      clear HFR
      go_wp2_with fail
      refine (nodes_any n h1 h8 p cap m L HL.out hm w3 (HT.out.below HB3.out) (HV.out.below HB3.out) (exE_ok HEX.out).1).mono ?_
      rintro e w5 ⟨A,Bb,g,rfl,hN,hb5⟩
      have HN:=zN hN
      have HB5:=zN (HB3.out.trans (hb5.mono HB3.out.size))
      have j0:=zP hb5 k0
      have j1:=zP hb5 k1
      have j2:=zP hb5 k2
      have j3:=zP hb5 k3
      have j4:=zP hb5 k4
      have j5:=zP hb5 k5
      have j6:=zP hb5 k6
      have j7:=zP hb5 k7
      have j8:=zP hb5 k8
      have j9:=zP hb5 k9
      have j10:=zP hb5 k10
      have j11:=zP hb5 k11
      clear hN hb5 e38 k0 k1 k2 k3 k4 k5 k6 k7 k8 k9 k10 k11 hEQ HC3
      go_wp2
      go_loopw [47,8] (fun v47 v8 wr=>∃ c:Nat,c≤12∧v47=.int .i64 (c:Int)∧FlOwn wr w5.heap.size v8 (outC n L bd c)∧Below w5.heap.size w5 wr) (fun v47 _ _=>12-(intOf v47).toNat)
      case atStart=>exact⟨0,by omega,rfl,World.ownsRow_nil _ _ _ _,zBr _ _⟩
      case round=>
       obtain⟨c,hc12,rfl,hrow,hb⟩:=hrel
       by_cases hc:c < 12
       ·have hdc:decide ((c:Int) < 12)=true:=zDt (by omega)
        have hc0:(0:Int)≤(c:Int):=by omega
        have hc1:(c:Int) < 12:=by omega
        have HROW:=zN hrow
        have HB:=zN hb
        clear hrow hb
        have hIX:=idx12 bd c hc wr
        by_cases hz:bd c=0
        ·have hzb:(bd c == 0)=true:=by rw[hz];rfl
         have HO:Hid (outC n L bd (c+1)=outC n L bd c):=zN (by
          unfold outC
          rw[List.range_succ,List.flatMap_append]
          have e:flC n L bd c=[]:=by unfold flC;rw[if_pos hz]
          simp[e])
         clear hz
         go_wp2
         go_roundw
         case rel=>exact⟨c+1,by omega,by go_num,by rw[HO.out];exact HROW.out,HB.out⟩
         case measure=>simp[intOf]<;>omega
        have hzb:(bd c == 0)=false:=by rw[beq_eq_false_iff_ne];exact hz
        have HO:Hid (outC n L bd (c+1)=outC n L bd c ++ ((List.range m).filter (rej (panB n L (bd c) c))).map (fun i:Nat=>((i:Int),(c:Int)))):=zN (by
         unfold outC
         rw[List.range_succ,List.flatMap_append]
         have e:flC n L bd c=(List.range m).filter (rej (panB n L (bd c) c)):=by unfold flC;rw[if_neg hz,HL.out]
         simp[e])
        obtain⟨lim,hlim⟩:∃ lim,lim=bd c:=⟨_,rfl⟩
        rw[←hlim] at hIX hzb HO
        have HLIM:=zN hlim
        clear hz hlim
        have hm1:=run_make_row' (P:=Tryz.prog) 22 3 (.int .i64 0) 8 Tryz.underlying22 (by kernel_rfl) rfl .i64 .i64 m (by omega) (by omega)
        have hm2:=run_make_row' (P:=Tryz.prog) 35 22 (.slice none 0 0) 24 Tryz.underlying35 (by kernel_rfl) rfl .i64 .i64 m (by omega) (by omega)
        have hm3:=run_make_row' (P:=Tryz.prog) 37 4 (.bool false) 1 Tryz.underlying37 (by kernel_rfl) rfl .i64 .i64 m (by omega) (by omega)
        go_upto_region 14 with fail
        go_cut [11] from 53 to 65 (fun v11 wx=>∃ g VB NB LB,v11=.pointer (some ⟨g,0,none⟩)∧Hid (PanNew wr wx g VB NB LB m lim))
        case first=>
         refine RX.regionF RX.fW (fun _=>True) [[0,1,2,3,4,5,6,7,8,9,10,11,12],[0,1,2,3,4,6,7,8,5,9,10,11,12],[0,1,3,4,5,2,6,7,8,9,10,11,12],[0,1,3,4,5,6,7,8,2,9,10,11,12],[0,1,3,4,6,7,8,2,5,9,10,11,12],[0,1,3,4,6,7,8,5,2,9,10,11,12]] (by kernel_rfl) (by kernel_rfl) (trivial) (fun OPS HO QR hQR=>?_)
         refine List.forall_mem_cons.2 ⟨?_,List.forall_mem_cons.2 ⟨?_,List.forall_mem_cons.2 ⟨?_,List.forall_mem_cons.2 ⟨?_,List.forall_mem_cons.2 ⟨?_,List.forall_mem_cons.2 ⟨?_,fun _ h=>(by cases h)⟩⟩⟩⟩⟩⟩
         ·
          simp only[RX.pick,RX.nth,List.map_cons,List.map_nil,List.getD_cons_zero,List.getD_cons_succ]
          repeat (refine zeX (fun R hR=>?_);(first|refine zaX (by first|rfl|(rw[HO.out];rfl)) (by simp only[zA,zB,zC,zD];rfl) ?_|refine zbX (by first|rfl|(rw[HO.out];rfl)) rfl (by first|exact .inl rfl|exact .inr rfl) (by simp only[zE,zF,zG,zH];rfl) (by simp only[zA,zB,zC,zD];rfl) ?_|refine zcX (by first|rfl|(rw[HO.out];rfl)) rfl rfl (by simp only[zE,zF,zG,zH];rfl) (by simp only[zA,zB,zC,zD];rfl) ?_|(refine zdX (by first|rfl|(rw[HO.out];rfl)) rfl rfl rfl ?_;apply zEx;apply zEx;refine⟨fun w' hS K hK=>?_,?_,?_⟩;(focus (go_wp2;exact hK _ _ (by simp only[zl,zG,zH];first|exact zf (by omega)|exact zg (by omega)|exact zh (by omega)|exact zi (by omega)|exact zj (by omega)|exact zk (by omega)|exact RX.bneB _|rfl) rfl));(focus (simp only[zA,zB,zC,zD];rfl))));refine hR _ _ ?_;clear hR R)
          refine zeX (fun R hR=>?_)
          refine zgX (by first|rfl|(rw[HO.out];rfl)) rfl (fun K hK=>?_)
          go_wp2
          refine⟨trivial,hR _ _ ?_⟩;clear hR R
          repeat (refine zeX (fun R hR=>?_);(first|refine zaX (by first|rfl|(rw[HO.out];rfl)) (by simp only[zA,zB,zC,zD];rfl) ?_|refine zbX (by first|rfl|(rw[HO.out];rfl)) rfl (by first|exact .inl rfl|exact .inr rfl) (by simp only[zE,zF,zG,zH];rfl) (by simp only[zA,zB,zC,zD];rfl) ?_|refine zcX (by first|rfl|(rw[HO.out];rfl)) rfl rfl (by simp only[zE,zF,zG,zH];rfl) (by simp only[zA,zB,zC,zD];rfl) ?_|(refine zdX (by first|rfl|(rw[HO.out];rfl)) rfl rfl rfl ?_;apply zEx;apply zEx;refine⟨fun w' hS K hK=>?_,?_,?_⟩;(focus (go_wp2;exact hK _ _ (by simp only[zl,zG,zH];first|exact zf (by omega)|exact zg (by omega)|exact zh (by omega)|exact zi (by omega)|exact zj (by omega)|exact zk (by omega)|exact RX.bneB _|rfl) rfl));(focus (simp only[zA,zB,zC,zD];rfl))));refine hR _ _ ?_;clear hR R)
          refine zeX (fun R hR=>?_)
          refine zgX (by first|rfl|(rw[HO.out];rfl)) rfl (fun K hK=>?_)
          go_wp2
          refine⟨trivial,hR _ _ ?_⟩;clear hR R
          repeat (refine zeX (fun R hR=>?_);(first|refine zaX (by first|rfl|(rw[HO.out];rfl)) (by simp only[zA,zB,zC,zD];rfl) ?_|refine zbX (by first|rfl|(rw[HO.out];rfl)) rfl (by first|exact .inl rfl|exact .inr rfl) (by simp only[zE,zF,zG,zH];rfl) (by simp only[zA,zB,zC,zD];rfl) ?_|refine zcX (by first|rfl|(rw[HO.out];rfl)) rfl rfl (by simp only[zE,zF,zG,zH];rfl) (by simp only[zA,zB,zC,zD];rfl) ?_|(refine zdX (by first|rfl|(rw[HO.out];rfl)) rfl rfl rfl ?_;apply zEx;apply zEx;refine⟨fun w' hS K hK=>?_,?_,?_⟩;(focus (go_wp2;exact hK _ _ (by simp only[zl,zG,zH];first|exact zf (by omega)|exact zg (by omega)|exact zh (by omega)|exact zi (by omega)|exact zj (by omega)|exact zk (by omega)|exact RX.bneB _|rfl) rfl));(focus (simp only[zA,zB,zC,zD];rfl))));refine hR _ _ ?_;clear hR R)
          refine zeX (fun R hR=>?_)
          refine zgX (by first|rfl|(rw[HO.out];rfl)) rfl (fun K hK=>?_)
          go_wp2
          refine⟨trivial,hR _ _ ?_⟩;clear hR R
          repeat (refine zeX (fun R hR=>?_);(first|refine zaX (by first|rfl|(rw[HO.out];rfl)) (by simp only[zA,zB,zC,zD];rfl) ?_|refine zbX (by first|rfl|(rw[HO.out];rfl)) rfl (by first|exact .inl rfl|exact .inr rfl) (by simp only[zE,zF,zG,zH];rfl) (by simp only[zA,zB,zC,zD];rfl) ?_|refine zcX (by first|rfl|(rw[HO.out];rfl)) rfl rfl (by simp only[zE,zF,zG,zH];rfl) (by simp only[zA,zB,zC,zD];rfl) ?_|(refine zdX (by first|rfl|(rw[HO.out];rfl)) rfl rfl rfl ?_;apply zEx;apply zEx;refine⟨fun w' hS K hK=>?_,?_,?_⟩;(focus (go_wp2;exact hK _ _ (by simp only[zl,zG,zH];first|exact zf (by omega)|exact zg (by omega)|exact zh (by omega)|exact zi (by omega)|exact zj (by omega)|exact zk (by omega)|exact RX.bneB _|rfl) rfl));(focus (simp only[zA,zB,zC,zD];rfl))));refine hR _ _ ?_;clear hR R)
          refine zeX (fun R hR=>?_)
          refine zgX (by first|rfl|(rw[HO.out];rfl)) rfl (fun K hK=>?_)
          go_wp2
          refine⟨trivial,hR _ _ ?_⟩;clear hR R
          repeat (refine zeX (fun R hR=>?_);(first|refine zaX (by first|rfl|(rw[HO.out];rfl)) (by simp only[zA,zB,zC,zD];rfl) ?_|refine zbX (by first|rfl|(rw[HO.out];rfl)) rfl (by first|exact .inl rfl|exact .inr rfl) (by simp only[zE,zF,zG,zH];rfl) (by simp only[zA,zB,zC,zD];rfl) ?_|refine zcX (by first|rfl|(rw[HO.out];rfl)) rfl rfl (by simp only[zE,zF,zG,zH];rfl) (by simp only[zA,zB,zC,zD];rfl) ?_|(refine zdX (by first|rfl|(rw[HO.out];rfl)) rfl rfl rfl ?_;apply zEx;apply zEx;refine⟨fun w' hS K hK=>?_,?_,?_⟩;(focus (go_wp2;exact hK _ _ (by simp only[zl,zG,zH];first|exact zf (by omega)|exact zg (by omega)|exact zh (by omega)|exact zi (by omega)|exact zj (by omega)|exact zk (by omega)|exact RX.bneB _|rfl) rfl));(focus (simp only[zA,zB,zC,zD];rfl))));refine hR _ _ ?_;clear hR R)
          refine RX.wpL_nil (hQR _ _ ?_);clear hQR QR HO OPS
          go_wp2_with fail
          go_meet
          case rel=>exact⟨_,_,_,_,rfl,zN (PanNew.of012 wr.drew m lim).undrew⟩
         ·
          simp only[RX.pick,RX.nth,List.map_cons,List.map_nil,List.getD_cons_zero,List.getD_cons_succ]
          repeat (refine zeX (fun R hR=>?_);(first|refine zaX (by first|rfl|(rw[HO.out];rfl)) (by simp only[zA,zB,zC,zD];rfl) ?_|refine zbX (by first|rfl|(rw[HO.out];rfl)) rfl (by first|exact .inl rfl|exact .inr rfl) (by simp only[zE,zF,zG,zH];rfl) (by simp only[zA,zB,zC,zD];rfl) ?_|refine zcX (by first|rfl|(rw[HO.out];rfl)) rfl rfl (by simp only[zE,zF,zG,zH];rfl) (by simp only[zA,zB,zC,zD];rfl) ?_|(refine zdX (by first|rfl|(rw[HO.out];rfl)) rfl rfl rfl ?_;apply zEx;apply zEx;refine⟨fun w' hS K hK=>?_,?_,?_⟩;(focus (go_wp2;exact hK _ _ (by simp only[zl,zG,zH];first|exact zf (by omega)|exact zg (by omega)|exact zh (by omega)|exact zi (by omega)|exact zj (by omega)|exact zk (by omega)|exact RX.bneB _|rfl) rfl));(focus (simp only[zA,zB,zC,zD];rfl))));refine hR _ _ ?_;clear hR R)
          refine zeX (fun R hR=>?_)
          refine zgX (by first|rfl|(rw[HO.out];rfl)) rfl (fun K hK=>?_)
          go_wp2
          refine⟨trivial,hR _ _ ?_⟩;clear hR R
          repeat (refine zeX (fun R hR=>?_);(first|refine zaX (by first|rfl|(rw[HO.out];rfl)) (by simp only[zA,zB,zC,zD];rfl) ?_|refine zbX (by first|rfl|(rw[HO.out];rfl)) rfl (by first|exact .inl rfl|exact .inr rfl) (by simp only[zE,zF,zG,zH];rfl) (by simp only[zA,zB,zC,zD];rfl) ?_|refine zcX (by first|rfl|(rw[HO.out];rfl)) rfl rfl (by simp only[zE,zF,zG,zH];rfl) (by simp only[zA,zB,zC,zD];rfl) ?_|(refine zdX (by first|rfl|(rw[HO.out];rfl)) rfl rfl rfl ?_;apply zEx;apply zEx;refine⟨fun w' hS K hK=>?_,?_,?_⟩;(focus (go_wp2;exact hK _ _ (by simp only[zl,zG,zH];first|exact zf (by omega)|exact zg (by omega)|exact zh (by omega)|exact zi (by omega)|exact zj (by omega)|exact zk (by omega)|exact RX.bneB _|rfl) rfl));(focus (simp only[zA,zB,zC,zD];rfl))));refine hR _ _ ?_;clear hR R)
          refine zeX (fun R hR=>?_)
          refine zgX (by first|rfl|(rw[HO.out];rfl)) rfl (fun K hK=>?_)
          go_wp2
          refine⟨trivial,hR _ _ ?_⟩;clear hR R
          repeat (refine zeX (fun R hR=>?_);(first|refine zaX (by first|rfl|(rw[HO.out];rfl)) (by simp only[zA,zB,zC,zD];rfl) ?_|refine zbX (by first|rfl|(rw[HO.out];rfl)) rfl (by first|exact .inl rfl|exact .inr rfl) (by simp only[zE,zF,zG,zH];rfl) (by simp only[zA,zB,zC,zD];rfl) ?_|refine zcX (by first|rfl|(rw[HO.out];rfl)) rfl rfl (by simp only[zE,zF,zG,zH];rfl) (by simp only[zA,zB,zC,zD];rfl) ?_|(refine zdX (by first|rfl|(rw[HO.out];rfl)) rfl rfl rfl ?_;apply zEx;apply zEx;refine⟨fun w' hS K hK=>?_,?_,?_⟩;(focus (go_wp2;exact hK _ _ (by simp only[zl,zG,zH];first|exact zf (by omega)|exact zg (by omega)|exact zh (by omega)|exact zi (by omega)|exact zj (by omega)|exact zk (by omega)|exact RX.bneB _|rfl) rfl));(focus (simp only[zA,zB,zC,zD];rfl))));refine hR _ _ ?_;clear hR R)
          refine zeX (fun R hR=>?_)
          refine zgX (by first|rfl|(rw[HO.out];rfl)) rfl (fun K hK=>?_)
          go_wp2
          refine⟨trivial,hR _ _ ?_⟩;clear hR R
          repeat (refine zeX (fun R hR=>?_);(first|refine zaX (by first|rfl|(rw[HO.out];rfl)) (by simp only[zA,zB,zC,zD];rfl) ?_|refine zbX (by first|rfl|(rw[HO.out];rfl)) rfl (by first|exact .inl rfl|exact .inr rfl) (by simp only[zE,zF,zG,zH];rfl) (by simp only[zA,zB,zC,zD];rfl) ?_|refine zcX (by first|rfl|(rw[HO.out];rfl)) rfl rfl (by simp only[zE,zF,zG,zH];rfl) (by simp only[zA,zB,zC,zD];rfl) ?_|(refine zdX (by first|rfl|(rw[HO.out];rfl)) rfl rfl rfl ?_;apply zEx;apply zEx;refine⟨fun w' hS K hK=>?_,?_,?_⟩;(focus (go_wp2;exact hK _ _ (by simp only[zl,zG,zH];first|exact zf (by omega)|exact zg (by omega)|exact zh (by omega)|exact zi (by omega)|exact zj (by omega)|exact zk (by omega)|exact RX.bneB _|rfl) rfl));(focus (simp only[zA,zB,zC,zD];rfl))));refine hR _ _ ?_;clear hR R)
          refine zeX (fun R hR=>?_)
          refine zgX (by first|rfl|(rw[HO.out];rfl)) rfl (fun K hK=>?_)
          go_wp2
          refine⟨trivial,hR _ _ ?_⟩;clear hR R
          repeat (refine zeX (fun R hR=>?_);(first|refine zaX (by first|rfl|(rw[HO.out];rfl)) (by simp only[zA,zB,zC,zD];rfl) ?_|refine zbX (by first|rfl|(rw[HO.out];rfl)) rfl (by first|exact .inl rfl|exact .inr rfl) (by simp only[zE,zF,zG,zH];rfl) (by simp only[zA,zB,zC,zD];rfl) ?_|refine zcX (by first|rfl|(rw[HO.out];rfl)) rfl rfl (by simp only[zE,zF,zG,zH];rfl) (by simp only[zA,zB,zC,zD];rfl) ?_|(refine zdX (by first|rfl|(rw[HO.out];rfl)) rfl rfl rfl ?_;apply zEx;apply zEx;refine⟨fun w' hS K hK=>?_,?_,?_⟩;(focus (go_wp2;exact hK _ _ (by simp only[zl,zG,zH];first|exact zf (by omega)|exact zg (by omega)|exact zh (by omega)|exact zi (by omega)|exact zj (by omega)|exact zk (by omega)|exact RX.bneB _|rfl) rfl));(focus (simp only[zA,zB,zC,zD];rfl))));refine hR _ _ ?_;clear hR R)
          refine RX.wpL_nil (hQR _ _ ?_);clear hQR QR HO OPS
          go_wp2_with fail
          go_meet
          case rel=>exact⟨_,_,_,_,rfl,zN (PanNew.of021 wr.drew m lim).undrew⟩
         ·
          simp only[RX.pick,RX.nth,List.map_cons,List.map_nil,List.getD_cons_zero,List.getD_cons_succ]
          repeat (refine zeX (fun R hR=>?_);(first|refine zaX (by first|rfl|(rw[HO.out];rfl)) (by simp only[zA,zB,zC,zD];rfl) ?_|refine zbX (by first|rfl|(rw[HO.out];rfl)) rfl (by first|exact .inl rfl|exact .inr rfl) (by simp only[zE,zF,zG,zH];rfl) (by simp only[zA,zB,zC,zD];rfl) ?_|refine zcX (by first|rfl|(rw[HO.out];rfl)) rfl rfl (by simp only[zE,zF,zG,zH];rfl) (by simp only[zA,zB,zC,zD];rfl) ?_|(refine zdX (by first|rfl|(rw[HO.out];rfl)) rfl rfl rfl ?_;apply zEx;apply zEx;refine⟨fun w' hS K hK=>?_,?_,?_⟩;(focus (go_wp2;exact hK _ _ (by simp only[zl,zG,zH];first|exact zf (by omega)|exact zg (by omega)|exact zh (by omega)|exact zi (by omega)|exact zj (by omega)|exact zk (by omega)|exact RX.bneB _|rfl) rfl));(focus (simp only[zA,zB,zC,zD];rfl))));refine hR _ _ ?_;clear hR R)
          refine zeX (fun R hR=>?_)
          refine zgX (by first|rfl|(rw[HO.out];rfl)) rfl (fun K hK=>?_)
          go_wp2
          refine⟨trivial,hR _ _ ?_⟩;clear hR R
          repeat (refine zeX (fun R hR=>?_);(first|refine zaX (by first|rfl|(rw[HO.out];rfl)) (by simp only[zA,zB,zC,zD];rfl) ?_|refine zbX (by first|rfl|(rw[HO.out];rfl)) rfl (by first|exact .inl rfl|exact .inr rfl) (by simp only[zE,zF,zG,zH];rfl) (by simp only[zA,zB,zC,zD];rfl) ?_|refine zcX (by first|rfl|(rw[HO.out];rfl)) rfl rfl (by simp only[zE,zF,zG,zH];rfl) (by simp only[zA,zB,zC,zD];rfl) ?_|(refine zdX (by first|rfl|(rw[HO.out];rfl)) rfl rfl rfl ?_;apply zEx;apply zEx;refine⟨fun w' hS K hK=>?_,?_,?_⟩;(focus (go_wp2;exact hK _ _ (by simp only[zl,zG,zH];first|exact zf (by omega)|exact zg (by omega)|exact zh (by omega)|exact zi (by omega)|exact zj (by omega)|exact zk (by omega)|exact RX.bneB _|rfl) rfl));(focus (simp only[zA,zB,zC,zD];rfl))));refine hR _ _ ?_;clear hR R)
          refine zeX (fun R hR=>?_)
          refine zgX (by first|rfl|(rw[HO.out];rfl)) rfl (fun K hK=>?_)
          go_wp2
          refine⟨trivial,hR _ _ ?_⟩;clear hR R
          repeat (refine zeX (fun R hR=>?_);(first|refine zaX (by first|rfl|(rw[HO.out];rfl)) (by simp only[zA,zB,zC,zD];rfl) ?_|refine zbX (by first|rfl|(rw[HO.out];rfl)) rfl (by first|exact .inl rfl|exact .inr rfl) (by simp only[zE,zF,zG,zH];rfl) (by simp only[zA,zB,zC,zD];rfl) ?_|refine zcX (by first|rfl|(rw[HO.out];rfl)) rfl rfl (by simp only[zE,zF,zG,zH];rfl) (by simp only[zA,zB,zC,zD];rfl) ?_|(refine zdX (by first|rfl|(rw[HO.out];rfl)) rfl rfl rfl ?_;apply zEx;apply zEx;refine⟨fun w' hS K hK=>?_,?_,?_⟩;(focus (go_wp2;exact hK _ _ (by simp only[zl,zG,zH];first|exact zf (by omega)|exact zg (by omega)|exact zh (by omega)|exact zi (by omega)|exact zj (by omega)|exact zk (by omega)|exact RX.bneB _|rfl) rfl));(focus (simp only[zA,zB,zC,zD];rfl))));refine hR _ _ ?_;clear hR R)
          refine zeX (fun R hR=>?_)
          refine zgX (by first|rfl|(rw[HO.out];rfl)) rfl (fun K hK=>?_)
          go_wp2
          refine⟨trivial,hR _ _ ?_⟩;clear hR R
          repeat (refine zeX (fun R hR=>?_);(first|refine zaX (by first|rfl|(rw[HO.out];rfl)) (by simp only[zA,zB,zC,zD];rfl) ?_|refine zbX (by first|rfl|(rw[HO.out];rfl)) rfl (by first|exact .inl rfl|exact .inr rfl) (by simp only[zE,zF,zG,zH];rfl) (by simp only[zA,zB,zC,zD];rfl) ?_|refine zcX (by first|rfl|(rw[HO.out];rfl)) rfl rfl (by simp only[zE,zF,zG,zH];rfl) (by simp only[zA,zB,zC,zD];rfl) ?_|(refine zdX (by first|rfl|(rw[HO.out];rfl)) rfl rfl rfl ?_;apply zEx;apply zEx;refine⟨fun w' hS K hK=>?_,?_,?_⟩;(focus (go_wp2;exact hK _ _ (by simp only[zl,zG,zH];first|exact zf (by omega)|exact zg (by omega)|exact zh (by omega)|exact zi (by omega)|exact zj (by omega)|exact zk (by omega)|exact RX.bneB _|rfl) rfl));(focus (simp only[zA,zB,zC,zD];rfl))));refine hR _ _ ?_;clear hR R)
          refine zeX (fun R hR=>?_)
          refine zgX (by first|rfl|(rw[HO.out];rfl)) rfl (fun K hK=>?_)
          go_wp2
          refine⟨trivial,hR _ _ ?_⟩;clear hR R
          repeat (refine zeX (fun R hR=>?_);(first|refine zaX (by first|rfl|(rw[HO.out];rfl)) (by simp only[zA,zB,zC,zD];rfl) ?_|refine zbX (by first|rfl|(rw[HO.out];rfl)) rfl (by first|exact .inl rfl|exact .inr rfl) (by simp only[zE,zF,zG,zH];rfl) (by simp only[zA,zB,zC,zD];rfl) ?_|refine zcX (by first|rfl|(rw[HO.out];rfl)) rfl rfl (by simp only[zE,zF,zG,zH];rfl) (by simp only[zA,zB,zC,zD];rfl) ?_|(refine zdX (by first|rfl|(rw[HO.out];rfl)) rfl rfl rfl ?_;apply zEx;apply zEx;refine⟨fun w' hS K hK=>?_,?_,?_⟩;(focus (go_wp2;exact hK _ _ (by simp only[zl,zG,zH];first|exact zf (by omega)|exact zg (by omega)|exact zh (by omega)|exact zi (by omega)|exact zj (by omega)|exact zk (by omega)|exact RX.bneB _|rfl) rfl));(focus (simp only[zA,zB,zC,zD];rfl))));refine hR _ _ ?_;clear hR R)
          refine RX.wpL_nil (hQR _ _ ?_);clear hQR QR HO OPS
          go_wp2_with fail
          go_meet
          case rel=>exact⟨_,_,_,_,rfl,zN (PanNew.of102 wr.drew m lim).undrew⟩
         ·
          simp only[RX.pick,RX.nth,List.map_cons,List.map_nil,List.getD_cons_zero,List.getD_cons_succ]
          repeat (refine zeX (fun R hR=>?_);(first|refine zaX (by first|rfl|(rw[HO.out];rfl)) (by simp only[zA,zB,zC,zD];rfl) ?_|refine zbX (by first|rfl|(rw[HO.out];rfl)) rfl (by first|exact .inl rfl|exact .inr rfl) (by simp only[zE,zF,zG,zH];rfl) (by simp only[zA,zB,zC,zD];rfl) ?_|refine zcX (by first|rfl|(rw[HO.out];rfl)) rfl rfl (by simp only[zE,zF,zG,zH];rfl) (by simp only[zA,zB,zC,zD];rfl) ?_|(refine zdX (by first|rfl|(rw[HO.out];rfl)) rfl rfl rfl ?_;apply zEx;apply zEx;refine⟨fun w' hS K hK=>?_,?_,?_⟩;(focus (go_wp2;exact hK _ _ (by simp only[zl,zG,zH];first|exact zf (by omega)|exact zg (by omega)|exact zh (by omega)|exact zi (by omega)|exact zj (by omega)|exact zk (by omega)|exact RX.bneB _|rfl) rfl));(focus (simp only[zA,zB,zC,zD];rfl))));refine hR _ _ ?_;clear hR R)
          refine zeX (fun R hR=>?_)
          refine zgX (by first|rfl|(rw[HO.out];rfl)) rfl (fun K hK=>?_)
          go_wp2
          refine⟨trivial,hR _ _ ?_⟩;clear hR R
          repeat (refine zeX (fun R hR=>?_);(first|refine zaX (by first|rfl|(rw[HO.out];rfl)) (by simp only[zA,zB,zC,zD];rfl) ?_|refine zbX (by first|rfl|(rw[HO.out];rfl)) rfl (by first|exact .inl rfl|exact .inr rfl) (by simp only[zE,zF,zG,zH];rfl) (by simp only[zA,zB,zC,zD];rfl) ?_|refine zcX (by first|rfl|(rw[HO.out];rfl)) rfl rfl (by simp only[zE,zF,zG,zH];rfl) (by simp only[zA,zB,zC,zD];rfl) ?_|(refine zdX (by first|rfl|(rw[HO.out];rfl)) rfl rfl rfl ?_;apply zEx;apply zEx;refine⟨fun w' hS K hK=>?_,?_,?_⟩;(focus (go_wp2;exact hK _ _ (by simp only[zl,zG,zH];first|exact zf (by omega)|exact zg (by omega)|exact zh (by omega)|exact zi (by omega)|exact zj (by omega)|exact zk (by omega)|exact RX.bneB _|rfl) rfl));(focus (simp only[zA,zB,zC,zD];rfl))));refine hR _ _ ?_;clear hR R)
          refine zeX (fun R hR=>?_)
          refine zgX (by first|rfl|(rw[HO.out];rfl)) rfl (fun K hK=>?_)
          go_wp2
          refine⟨trivial,hR _ _ ?_⟩;clear hR R
          repeat (refine zeX (fun R hR=>?_);(first|refine zaX (by first|rfl|(rw[HO.out];rfl)) (by simp only[zA,zB,zC,zD];rfl) ?_|refine zbX (by first|rfl|(rw[HO.out];rfl)) rfl (by first|exact .inl rfl|exact .inr rfl) (by simp only[zE,zF,zG,zH];rfl) (by simp only[zA,zB,zC,zD];rfl) ?_|refine zcX (by first|rfl|(rw[HO.out];rfl)) rfl rfl (by simp only[zE,zF,zG,zH];rfl) (by simp only[zA,zB,zC,zD];rfl) ?_|(refine zdX (by first|rfl|(rw[HO.out];rfl)) rfl rfl rfl ?_;apply zEx;apply zEx;refine⟨fun w' hS K hK=>?_,?_,?_⟩;(focus (go_wp2;exact hK _ _ (by simp only[zl,zG,zH];first|exact zf (by omega)|exact zg (by omega)|exact zh (by omega)|exact zi (by omega)|exact zj (by omega)|exact zk (by omega)|exact RX.bneB _|rfl) rfl));(focus (simp only[zA,zB,zC,zD];rfl))));refine hR _ _ ?_;clear hR R)
          refine zeX (fun R hR=>?_)
          refine zgX (by first|rfl|(rw[HO.out];rfl)) rfl (fun K hK=>?_)
          go_wp2
          refine⟨trivial,hR _ _ ?_⟩;clear hR R
          repeat (refine zeX (fun R hR=>?_);(first|refine zaX (by first|rfl|(rw[HO.out];rfl)) (by simp only[zA,zB,zC,zD];rfl) ?_|refine zbX (by first|rfl|(rw[HO.out];rfl)) rfl (by first|exact .inl rfl|exact .inr rfl) (by simp only[zE,zF,zG,zH];rfl) (by simp only[zA,zB,zC,zD];rfl) ?_|refine zcX (by first|rfl|(rw[HO.out];rfl)) rfl rfl (by simp only[zE,zF,zG,zH];rfl) (by simp only[zA,zB,zC,zD];rfl) ?_|(refine zdX (by first|rfl|(rw[HO.out];rfl)) rfl rfl rfl ?_;apply zEx;apply zEx;refine⟨fun w' hS K hK=>?_,?_,?_⟩;(focus (go_wp2;exact hK _ _ (by simp only[zl,zG,zH];first|exact zf (by omega)|exact zg (by omega)|exact zh (by omega)|exact zi (by omega)|exact zj (by omega)|exact zk (by omega)|exact RX.bneB _|rfl) rfl));(focus (simp only[zA,zB,zC,zD];rfl))));refine hR _ _ ?_;clear hR R)
          refine zeX (fun R hR=>?_)
          refine zgX (by first|rfl|(rw[HO.out];rfl)) rfl (fun K hK=>?_)
          go_wp2
          refine⟨trivial,hR _ _ ?_⟩;clear hR R
          repeat (refine zeX (fun R hR=>?_);(first|refine zaX (by first|rfl|(rw[HO.out];rfl)) (by simp only[zA,zB,zC,zD];rfl) ?_|refine zbX (by first|rfl|(rw[HO.out];rfl)) rfl (by first|exact .inl rfl|exact .inr rfl) (by simp only[zE,zF,zG,zH];rfl) (by simp only[zA,zB,zC,zD];rfl) ?_|refine zcX (by first|rfl|(rw[HO.out];rfl)) rfl rfl (by simp only[zE,zF,zG,zH];rfl) (by simp only[zA,zB,zC,zD];rfl) ?_|(refine zdX (by first|rfl|(rw[HO.out];rfl)) rfl rfl rfl ?_;apply zEx;apply zEx;refine⟨fun w' hS K hK=>?_,?_,?_⟩;(focus (go_wp2;exact hK _ _ (by simp only[zl,zG,zH];first|exact zf (by omega)|exact zg (by omega)|exact zh (by omega)|exact zi (by omega)|exact zj (by omega)|exact zk (by omega)|exact RX.bneB _|rfl) rfl));(focus (simp only[zA,zB,zC,zD];rfl))));refine hR _ _ ?_;clear hR R)
          refine RX.wpL_nil (hQR _ _ ?_);clear hQR QR HO OPS
          go_wp2_with fail
          go_meet
          case rel=>exact⟨_,_,_,_,rfl,zN (PanNew.of120 wr.drew m lim).undrew⟩
         ·
          simp only[RX.pick,RX.nth,List.map_cons,List.map_nil,List.getD_cons_zero,List.getD_cons_succ]
          repeat (refine zeX (fun R hR=>?_);(first|refine zaX (by first|rfl|(rw[HO.out];rfl)) (by simp only[zA,zB,zC,zD];rfl) ?_|refine zbX (by first|rfl|(rw[HO.out];rfl)) rfl (by first|exact .inl rfl|exact .inr rfl) (by simp only[zE,zF,zG,zH];rfl) (by simp only[zA,zB,zC,zD];rfl) ?_|refine zcX (by first|rfl|(rw[HO.out];rfl)) rfl rfl (by simp only[zE,zF,zG,zH];rfl) (by simp only[zA,zB,zC,zD];rfl) ?_|(refine zdX (by first|rfl|(rw[HO.out];rfl)) rfl rfl rfl ?_;apply zEx;apply zEx;refine⟨fun w' hS K hK=>?_,?_,?_⟩;(focus (go_wp2;exact hK _ _ (by simp only[zl,zG,zH];first|exact zf (by omega)|exact zg (by omega)|exact zh (by omega)|exact zi (by omega)|exact zj (by omega)|exact zk (by omega)|exact RX.bneB _|rfl) rfl));(focus (simp only[zA,zB,zC,zD];rfl))));refine hR _ _ ?_;clear hR R)
          refine zeX (fun R hR=>?_)
          refine zgX (by first|rfl|(rw[HO.out];rfl)) rfl (fun K hK=>?_)
          go_wp2
          refine⟨trivial,hR _ _ ?_⟩;clear hR R
          repeat (refine zeX (fun R hR=>?_);(first|refine zaX (by first|rfl|(rw[HO.out];rfl)) (by simp only[zA,zB,zC,zD];rfl) ?_|refine zbX (by first|rfl|(rw[HO.out];rfl)) rfl (by first|exact .inl rfl|exact .inr rfl) (by simp only[zE,zF,zG,zH];rfl) (by simp only[zA,zB,zC,zD];rfl) ?_|refine zcX (by first|rfl|(rw[HO.out];rfl)) rfl rfl (by simp only[zE,zF,zG,zH];rfl) (by simp only[zA,zB,zC,zD];rfl) ?_|(refine zdX (by first|rfl|(rw[HO.out];rfl)) rfl rfl rfl ?_;apply zEx;apply zEx;refine⟨fun w' hS K hK=>?_,?_,?_⟩;(focus (go_wp2;exact hK _ _ (by simp only[zl,zG,zH];first|exact zf (by omega)|exact zg (by omega)|exact zh (by omega)|exact zi (by omega)|exact zj (by omega)|exact zk (by omega)|exact RX.bneB _|rfl) rfl));(focus (simp only[zA,zB,zC,zD];rfl))));refine hR _ _ ?_;clear hR R)
          refine zeX (fun R hR=>?_)
          refine zgX (by first|rfl|(rw[HO.out];rfl)) rfl (fun K hK=>?_)
          go_wp2
          refine⟨trivial,hR _ _ ?_⟩;clear hR R
          repeat (refine zeX (fun R hR=>?_);(first|refine zaX (by first|rfl|(rw[HO.out];rfl)) (by simp only[zA,zB,zC,zD];rfl) ?_|refine zbX (by first|rfl|(rw[HO.out];rfl)) rfl (by first|exact .inl rfl|exact .inr rfl) (by simp only[zE,zF,zG,zH];rfl) (by simp only[zA,zB,zC,zD];rfl) ?_|refine zcX (by first|rfl|(rw[HO.out];rfl)) rfl rfl (by simp only[zE,zF,zG,zH];rfl) (by simp only[zA,zB,zC,zD];rfl) ?_|(refine zdX (by first|rfl|(rw[HO.out];rfl)) rfl rfl rfl ?_;apply zEx;apply zEx;refine⟨fun w' hS K hK=>?_,?_,?_⟩;(focus (go_wp2;exact hK _ _ (by simp only[zl,zG,zH];first|exact zf (by omega)|exact zg (by omega)|exact zh (by omega)|exact zi (by omega)|exact zj (by omega)|exact zk (by omega)|exact RX.bneB _|rfl) rfl));(focus (simp only[zA,zB,zC,zD];rfl))));refine hR _ _ ?_;clear hR R)
          refine zeX (fun R hR=>?_)
          refine zgX (by first|rfl|(rw[HO.out];rfl)) rfl (fun K hK=>?_)
          go_wp2
          refine⟨trivial,hR _ _ ?_⟩;clear hR R
          repeat (refine zeX (fun R hR=>?_);(first|refine zaX (by first|rfl|(rw[HO.out];rfl)) (by simp only[zA,zB,zC,zD];rfl) ?_|refine zbX (by first|rfl|(rw[HO.out];rfl)) rfl (by first|exact .inl rfl|exact .inr rfl) (by simp only[zE,zF,zG,zH];rfl) (by simp only[zA,zB,zC,zD];rfl) ?_|refine zcX (by first|rfl|(rw[HO.out];rfl)) rfl rfl (by simp only[zE,zF,zG,zH];rfl) (by simp only[zA,zB,zC,zD];rfl) ?_|(refine zdX (by first|rfl|(rw[HO.out];rfl)) rfl rfl rfl ?_;apply zEx;apply zEx;refine⟨fun w' hS K hK=>?_,?_,?_⟩;(focus (go_wp2;exact hK _ _ (by simp only[zl,zG,zH];first|exact zf (by omega)|exact zg (by omega)|exact zh (by omega)|exact zi (by omega)|exact zj (by omega)|exact zk (by omega)|exact RX.bneB _|rfl) rfl));(focus (simp only[zA,zB,zC,zD];rfl))));refine hR _ _ ?_;clear hR R)
          refine zeX (fun R hR=>?_)
          refine zgX (by first|rfl|(rw[HO.out];rfl)) rfl (fun K hK=>?_)
          go_wp2
          refine⟨trivial,hR _ _ ?_⟩;clear hR R
          repeat (refine zeX (fun R hR=>?_);(first|refine zaX (by first|rfl|(rw[HO.out];rfl)) (by simp only[zA,zB,zC,zD];rfl) ?_|refine zbX (by first|rfl|(rw[HO.out];rfl)) rfl (by first|exact .inl rfl|exact .inr rfl) (by simp only[zE,zF,zG,zH];rfl) (by simp only[zA,zB,zC,zD];rfl) ?_|refine zcX (by first|rfl|(rw[HO.out];rfl)) rfl rfl (by simp only[zE,zF,zG,zH];rfl) (by simp only[zA,zB,zC,zD];rfl) ?_|(refine zdX (by first|rfl|(rw[HO.out];rfl)) rfl rfl rfl ?_;apply zEx;apply zEx;refine⟨fun w' hS K hK=>?_,?_,?_⟩;(focus (go_wp2;exact hK _ _ (by simp only[zl,zG,zH];first|exact zf (by omega)|exact zg (by omega)|exact zh (by omega)|exact zi (by omega)|exact zj (by omega)|exact zk (by omega)|exact RX.bneB _|rfl) rfl));(focus (simp only[zA,zB,zC,zD];rfl))));refine hR _ _ ?_;clear hR R)
          refine RX.wpL_nil (hQR _ _ ?_);clear hQR QR HO OPS
          go_wp2_with fail
          go_meet
          case rel=>exact⟨_,_,_,_,rfl,zN (PanNew.of201 wr.drew m lim).undrew⟩
         ·
          simp only[RX.pick,RX.nth,List.map_cons,List.map_nil,List.getD_cons_zero,List.getD_cons_succ]
          repeat (refine zeX (fun R hR=>?_);(first|refine zaX (by first|rfl|(rw[HO.out];rfl)) (by simp only[zA,zB,zC,zD];rfl) ?_|refine zbX (by first|rfl|(rw[HO.out];rfl)) rfl (by first|exact .inl rfl|exact .inr rfl) (by simp only[zE,zF,zG,zH];rfl) (by simp only[zA,zB,zC,zD];rfl) ?_|refine zcX (by first|rfl|(rw[HO.out];rfl)) rfl rfl (by simp only[zE,zF,zG,zH];rfl) (by simp only[zA,zB,zC,zD];rfl) ?_|(refine zdX (by first|rfl|(rw[HO.out];rfl)) rfl rfl rfl ?_;apply zEx;apply zEx;refine⟨fun w' hS K hK=>?_,?_,?_⟩;(focus (go_wp2;exact hK _ _ (by simp only[zl,zG,zH];first|exact zf (by omega)|exact zg (by omega)|exact zh (by omega)|exact zi (by omega)|exact zj (by omega)|exact zk (by omega)|exact RX.bneB _|rfl) rfl));(focus (simp only[zA,zB,zC,zD];rfl))));refine hR _ _ ?_;clear hR R)
          refine zeX (fun R hR=>?_)
          refine zgX (by first|rfl|(rw[HO.out];rfl)) rfl (fun K hK=>?_)
          go_wp2
          refine⟨trivial,hR _ _ ?_⟩;clear hR R
          repeat (refine zeX (fun R hR=>?_);(first|refine zaX (by first|rfl|(rw[HO.out];rfl)) (by simp only[zA,zB,zC,zD];rfl) ?_|refine zbX (by first|rfl|(rw[HO.out];rfl)) rfl (by first|exact .inl rfl|exact .inr rfl) (by simp only[zE,zF,zG,zH];rfl) (by simp only[zA,zB,zC,zD];rfl) ?_|refine zcX (by first|rfl|(rw[HO.out];rfl)) rfl rfl (by simp only[zE,zF,zG,zH];rfl) (by simp only[zA,zB,zC,zD];rfl) ?_|(refine zdX (by first|rfl|(rw[HO.out];rfl)) rfl rfl rfl ?_;apply zEx;apply zEx;refine⟨fun w' hS K hK=>?_,?_,?_⟩;(focus (go_wp2;exact hK _ _ (by simp only[zl,zG,zH];first|exact zf (by omega)|exact zg (by omega)|exact zh (by omega)|exact zi (by omega)|exact zj (by omega)|exact zk (by omega)|exact RX.bneB _|rfl) rfl));(focus (simp only[zA,zB,zC,zD];rfl))));refine hR _ _ ?_;clear hR R)
          refine zeX (fun R hR=>?_)
          refine zgX (by first|rfl|(rw[HO.out];rfl)) rfl (fun K hK=>?_)
          go_wp2
          refine⟨trivial,hR _ _ ?_⟩;clear hR R
          repeat (refine zeX (fun R hR=>?_);(first|refine zaX (by first|rfl|(rw[HO.out];rfl)) (by simp only[zA,zB,zC,zD];rfl) ?_|refine zbX (by first|rfl|(rw[HO.out];rfl)) rfl (by first|exact .inl rfl|exact .inr rfl) (by simp only[zE,zF,zG,zH];rfl) (by simp only[zA,zB,zC,zD];rfl) ?_|refine zcX (by first|rfl|(rw[HO.out];rfl)) rfl rfl (by simp only[zE,zF,zG,zH];rfl) (by simp only[zA,zB,zC,zD];rfl) ?_|(refine zdX (by first|rfl|(rw[HO.out];rfl)) rfl rfl rfl ?_;apply zEx;apply zEx;refine⟨fun w' hS K hK=>?_,?_,?_⟩;(focus (go_wp2;exact hK _ _ (by simp only[zl,zG,zH];first|exact zf (by omega)|exact zg (by omega)|exact zh (by omega)|exact zi (by omega)|exact zj (by omega)|exact zk (by omega)|exact RX.bneB _|rfl) rfl));(focus (simp only[zA,zB,zC,zD];rfl))));refine hR _ _ ?_;clear hR R)
          refine zeX (fun R hR=>?_)
          refine zgX (by first|rfl|(rw[HO.out];rfl)) rfl (fun K hK=>?_)
          go_wp2
          refine⟨trivial,hR _ _ ?_⟩;clear hR R
          repeat (refine zeX (fun R hR=>?_);(first|refine zaX (by first|rfl|(rw[HO.out];rfl)) (by simp only[zA,zB,zC,zD];rfl) ?_|refine zbX (by first|rfl|(rw[HO.out];rfl)) rfl (by first|exact .inl rfl|exact .inr rfl) (by simp only[zE,zF,zG,zH];rfl) (by simp only[zA,zB,zC,zD];rfl) ?_|refine zcX (by first|rfl|(rw[HO.out];rfl)) rfl rfl (by simp only[zE,zF,zG,zH];rfl) (by simp only[zA,zB,zC,zD];rfl) ?_|(refine zdX (by first|rfl|(rw[HO.out];rfl)) rfl rfl rfl ?_;apply zEx;apply zEx;refine⟨fun w' hS K hK=>?_,?_,?_⟩;(focus (go_wp2;exact hK _ _ (by simp only[zl,zG,zH];first|exact zf (by omega)|exact zg (by omega)|exact zh (by omega)|exact zi (by omega)|exact zj (by omega)|exact zk (by omega)|exact RX.bneB _|rfl) rfl));(focus (simp only[zA,zB,zC,zD];rfl))));refine hR _ _ ?_;clear hR R)
          refine zeX (fun R hR=>?_)
          refine zgX (by first|rfl|(rw[HO.out];rfl)) rfl (fun K hK=>?_)
          go_wp2
          refine⟨trivial,hR _ _ ?_⟩;clear hR R
          repeat (refine zeX (fun R hR=>?_);(first|refine zaX (by first|rfl|(rw[HO.out];rfl)) (by simp only[zA,zB,zC,zD];rfl) ?_|refine zbX (by first|rfl|(rw[HO.out];rfl)) rfl (by first|exact .inl rfl|exact .inr rfl) (by simp only[zE,zF,zG,zH];rfl) (by simp only[zA,zB,zC,zD];rfl) ?_|refine zcX (by first|rfl|(rw[HO.out];rfl)) rfl rfl (by simp only[zE,zF,zG,zH];rfl) (by simp only[zA,zB,zC,zD];rfl) ?_|(refine zdX (by first|rfl|(rw[HO.out];rfl)) rfl rfl rfl ?_;apply zEx;apply zEx;refine⟨fun w' hS K hK=>?_,?_,?_⟩;(focus (go_wp2;exact hK _ _ (by simp only[zl,zG,zH];first|exact zf (by omega)|exact zg (by omega)|exact zh (by omega)|exact zi (by omega)|exact zj (by omega)|exact zk (by omega)|exact RX.bneB _|rfl) rfl));(focus (simp only[zA,zB,zC,zD];rfl))));refine hR _ _ ?_;clear hR R)
          refine RX.wpL_nil (hQR _ _ ?_);clear hQR QR HO OPS
          go_wp2_with fail
          go_meet
          case rel=>exact⟨_,_,_,_,rfl,zN (PanNew.of210 wr.drew m lim).undrew⟩
        case rest=>
         obtain⟨gp,VB,NB,LB,rfl,HPN⟩:=hcut
         generalize wr=W6 at *
         generalize wc=W7 at *
         have HP0:Hid (PanF W6 W7 gp VB NB LB (panB n L lim c) 0):=zN (PanF.start HPN.out HL.out rfl)
         have HPD:Hid ((panB n L lim c).n=m∧(∀ i,(panB n L lim c).pr i=fB (bat L i).2 (c:Int))∧(∀ i,(panB n L lim c).val i=fV (bat L i).2 (c:Int))∧∀ i,(panB n L lim c).nx i=aroL n L (c:Int) i):=zN ⟨HL.out,fun _=>rfl,fun _=>rfl,fun _=>rfl⟩
         have HPO:Hid (PanOk (panB n L lim c)):=zN (panB_ok (by rw[HL.out];exact hm) (exE_ok HEX.out).2)
         generalize panB n L lim c=P at *
         clear HPN hm1 hm2 hm3 hIX
         go_wp2
         go_loopw [67] (fun v67 wx=>∃ i:Nat,i≤m∧v67=.int .i64 (i:Int)∧PanF W6 wx gp VB NB LB P i) (fun v67 _=>m-(intOf v67).toNat)
         case atStart=>exact⟨0,by omega,rfl,HP0.out⟩
         case round=>
          clear HP0
          obtain⟨i,him,rfl,hF⟩:=hrel
          by_cases hi:i < m
          ·have hdi:decide ((i:Int) < (m:Int))=true:=zDt (by omega)
           have hi0:(0:Int)≤(i:Int):=by omega
           have hi1:(i:Int) < (m:Int):=by omega
           have hil:i < L.length:=by rw[HL.out];exact hi
           have hbw:Below w.heap.size w wr:=(HB5.out.trans (HB.out.mono HB5.out.size)).trans (hF.below.mono (HB5.out.trans (HB.out.mono HB5.out.size)).size)
           have hVw:=HV.out.below hbw
           obtain⟨bb,o,rfl,hbbl,hrp⟩:=hVw.cell (by omega)
           have hri:=hrp i hil
           have hok:=hVw.r _ (List.getElem_mem hil)
           rw[←bat_eq hil] at hri hok
           obtain⟨x,hx⟩:∃ x,x=bat L i:=⟨_,rfl⟩
           rw[←hx] at hri hok
           have HX:=zN hx
           obtain⟨q,cq,hrd,hR⟩:=hok.ex
           obtain⟨nr,hnr⟩:∃ nr,nr=x.2.length:=⟨_,rfl⟩
           have hnr9:nr≤1000000000:=by rw[hnr];exact hok.len
           have HNR:=zN hnr
           obtain⟨c0,c1,c2,c3,c4,c5,c6,c7,_⟩:=hri
           rw[hrd,←hnr] at c7
           have hbA:Below wr.heap.size wr (wr.alloc (.cells #[.int .i64 x.1.kind,.string x.1.name,.int .i64 x.1.time,.int .i64 x.1.f,.int .i64 x.1.a,.int .i64 x.1.b,.int .i64 x.1.c,.slice q nr cq] 44)):=(zBr _ _).alloc (Nat.le_refl _) _
           have HBW:=zN hbw
           have HF:=zN hF
           clear hVw hrp hok hx hrd hnr hbw hF
           go_wp2
           refine absW (F:=fun w'=>w'.cell? ⟨wr.heap.size,7,none⟩=some (.slice q nr cq)∧Below wr.heap.size wr w') ⟨(by simp[zO,zJ,zQ]),hbA⟩ ?_
           rintro W8 ⟨a7,hb8⟩
           have hlw:=HF.out.lt
           have HR8:=zN (hR.below hb8)
           have HF8:=zN (HF.out.grow hb8)
           have HB8:=zN (HBW.out.trans (hb8.mono HBW.out.size))
           obtain⟨r0,r1,r2,r3,r4,r5,r6,r7,r8,r9⟩:=HF8.out
           rw[HPD.out.1] at r0 r1 r2
           have HC:=zN (fun w' (hb:Below W8.heap.size W8 w')=>find_any q x.2 cq nr (c:Int) w' HNR.out.symm (HR8.out.below hb) hnr9)
           clear c0 c1 c2 c3 c4 c5 c6 c7 hbA hb8 hR HF r1 r3 r4 r5 r6 r7 r8 r9
           obtain⟨hlg,hlV,hlN,hlL⟩:gp < W8.heap.size∧VB < W8.heap.size∧NB < W8.heap.size∧LB < W8.heap.size:=by have h1:=HF8.out.lt;have h2:=HF8.out.ne;omega
           have hne:=HF8.out.ne
           have HVE:Hid (P.val i=fV x.2 (c:Int)∧P.pr i=fB x.2 (c:Int)):=zN ⟨by rw[HX.out];exact HPD.out.2.2.1 i,by rw[HX.out];exact HPD.out.2.1 i⟩
           refine RY.region RX.fN (fun w'=>w'.cell? ⟨gp,0,none⟩=some (.slice (some ⟨VB,0,none⟩) m m)∧w'.cell? ⟨gp,2,none⟩=some (.slice (some ⟨LB,0,none⟩) m m)∧w'.cell? ⟨wr.heap.size,7,none⟩=some (.slice q nr cq)) (by kernel_rfl) (by kernel_rfl) (⟨r0,r2,a7⟩) (fun OPS HO QR hQR=>?_)
           repeat (refine zeY (fun R hR=>?_);(first|refine zaY (by first|rfl|(rw[HO.out];rfl)) (by simp only[zA,zB,zC,zD];rfl) ?_|refine zbY (by first|rfl|(rw[HO.out];rfl)) rfl (by first|exact .inl rfl|exact .inr rfl) (by simp only[zE,zF,zG,zH];rfl) (by simp only[zA,zB,zC,zD];rfl) ?_|refine zcY (by first|rfl|(rw[HO.out];rfl)) rfl rfl (by simp only[zE,zF,zG,zH];rfl) (by simp only[zA,zB,zC,zD];rfl) ?_|(refine zdY (by first|rfl|(rw[HO.out];rfl)) rfl rfl rfl ?_;apply zEx;apply zEx;refine⟨fun w' hS K hK=>?_,?_,?_⟩;(focus (obtain⟨hS1,hS2,hS3⟩:=hS;go_wp2;exact hK _ _ (by simp only[zl,zG,zH];first|exact zf (by omega)|exact zg (by omega)|exact zh (by omega)|exact zi (by omega)|exact zj (by omega)|exact zk (by omega)|exact RX.bneB _|rfl) rfl));(focus (simp only[zA,zB,zC,zD];rfl))));refine hR _ _ ?_;clear hR R)
           refine zeY (fun R hR=>?_)
           refine zgY (by first|rfl|(rw[HO.out];rfl)) rfl (fun K hK=>?_)
           go_wp2_with fail
           refine (HC.out _ (zBd (zBr _ _))).mono ?_
           rintro e w9 ⟨rfl,hb9⟩
           rw[←HVE.out.1,←HVE.out.2]
           have hb9':Below W8.heap.size W8 w9:=(zBd (zBr _ _)).trans hb9
           have HF9:=zN (HF8.out.grow hb9')
           have s0:=zP hb9' r0
           have s2:=zP hb9' r2
           have s7:=zP hb9' a7
           have HB9:=zN (HB8.out.trans (hb9'.mono HB8.out.size))
           have v0:=NRow.cell HF9.out.val (show i < P.n by rw[HPD.out.1];exact hi)
           have v1:w9.frozen? ⟨VB,i,none⟩=false:=World.rowIs.frozen HF9.out.val i
           have l0:=HF9.out.lf.cell (show i < P.n by rw[HPD.out.1];exact hi)
           have l1:w9.frozen? ⟨LB,i,none⟩=false:=World.rowIs.frozen HF9.out.lf i
           clear hb9 hb9' r0 r2 a7
           refine hK _ _ ⟨.inr (⟨s0,s2,s7⟩),hR _ _ ?_⟩;clear hK K hR R
           repeat (refine zeY (fun R hR=>?_);(first|refine zaY (by first|rfl|(rw[HO.out];rfl)) (by simp only[zA,zB,zC,zD];rfl) ?_|refine zbY (by first|rfl|(rw[HO.out];rfl)) rfl (by first|exact .inl rfl|exact .inr rfl) (by simp only[zE,zF,zG,zH];rfl) (by simp only[zA,zB,zC,zD];rfl) ?_|refine zcY (by first|rfl|(rw[HO.out];rfl)) rfl rfl (by simp only[zE,zF,zG,zH];rfl) (by simp only[zA,zB,zC,zD];rfl) ?_|(refine zdY (by first|rfl|(rw[HO.out];rfl)) rfl rfl rfl ?_;apply zEx;apply zEx;refine⟨fun w' hS K hK=>?_,?_,?_⟩;(focus (obtain⟨hS1,hS2,hS3⟩:=hS;go_wp2;exact hK _ _ (by simp only[zl,zG,zH];first|exact zf (by omega)|exact zg (by omega)|exact zh (by omega)|exact zi (by omega)|exact zj (by omega)|exact zk (by omega)|exact RX.bneB _|rfl) rfl));(focus (simp only[zA,zB,zC,zD];rfl))));refine hR _ _ ?_;clear hR R)
           refine zeY (fun R hR=>?_)
           refine zgY (by first|rfl|(rw[HO.out];rfl)) rfl (fun K hK=>?_)
           go_wp2
           refine⟨.inr (⟨(by (try have hLt:=zM _ _ s0);(try simp only at hLt);(repeat first|rw[zO]|rw[zK _ _ _ _ (by first|(simp<;>omega)|omega)]|rw[zJ,if_neg (by first|(simp<;>omega)|omega)]);first|exact s0|(rw[zJ,if_pos (by first|(simp;done)|omega)];exact s0)),(by (try have hLt:=zM _ _ s2);(try simp only at hLt);(repeat first|rw[zO]|rw[zK _ _ _ _ (by first|(simp<;>omega)|omega)]|rw[zJ,if_neg (by first|(simp<;>omega)|omega)]);first|exact s2|(rw[zJ,if_pos (by first|(simp;done)|omega)];exact s2)),(by (try have hLt:=zM _ _ s7);(try simp only at hLt);(repeat first|rw[zO]|rw[zK _ _ _ _ (by first|(simp<;>omega)|omega)]|rw[zJ,if_neg (by first|(simp<;>omega)|omega)]);first|exact s7|(rw[zJ,if_pos (by first|(simp;done)|omega)];exact s7))⟩),hR _ _ ?_⟩;clear hR R
           repeat (refine zeY (fun R hR=>?_);(first|refine zaY (by first|rfl|(rw[HO.out];rfl)) (by simp only[zA,zB,zC,zD];rfl) ?_|refine zbY (by first|rfl|(rw[HO.out];rfl)) rfl (by first|exact .inl rfl|exact .inr rfl) (by simp only[zE,zF,zG,zH];rfl) (by simp only[zA,zB,zC,zD];rfl) ?_|refine zcY (by first|rfl|(rw[HO.out];rfl)) rfl rfl (by simp only[zE,zF,zG,zH];rfl) (by simp only[zA,zB,zC,zD];rfl) ?_|(refine zdY (by first|rfl|(rw[HO.out];rfl)) rfl rfl rfl ?_;apply zEx;apply zEx;refine⟨fun w' hS K hK=>?_,?_,?_⟩;(focus (obtain⟨hS1,hS2,hS3⟩:=hS;go_wp2;exact hK _ _ (by simp only[zl,zG,zH];first|exact zf (by omega)|exact zg (by omega)|exact zh (by omega)|exact zi (by omega)|exact zj (by omega)|exact zk (by omega)|exact RX.bneB _|rfl) rfl));(focus (simp only[zA,zB,zC,zD];rfl))));refine hR _ _ ?_;clear hR R)
           refine zeY (fun R hR=>?_)
           refine zgY (by first|rfl|(rw[HO.out];rfl)) rfl (fun K hK=>?_)
           go_wp2
           first|refine⟨(by first|exact .inl rfl|exact .inl trivial|trivial),hR _ _ (RY.wpL_nil (hQR _ _ ?_))⟩|refine hR _ _ (RY.wpL_nil (hQR _ _ ?_))|refine hQR _ _ ?_
           (try clear hR);(try clear R);clear hQR QR HO OPS
           go_wp2
           obtain⟨W10,hW10⟩:∃ W10,W10=(w9.setCell ⟨VB,i,none⟩ (.int .i64 (P.val i))).setCell ⟨LB,i,none⟩ (.bool (P.pr i)):=⟨_,rfl⟩
           have hge:=HF9.out.ge
           have hneV:gp≠VB:=by omega
           have hneL:gp≠LB:=by omega
           have hneNL:NB≠LB:=hne.2.1
           have hneNV:NB≠VB:=fun e=>hne.2.2.1 e.symm
           have hw56:=HB.out.size
           have hws5:=HB5.out.size
           have hbx:Below w5.heap.size w5 W10:=by
            rw[hW10]
            exact ((HB.out.trans (HF9.out.below.mono hw56)).setCell (Nat.le_trans hw56 hge.1) _).setCell (Nat.le_trans hw56 hge.2.2) _
           have hbv:Below w.heap.size w W10:=HB5.out.trans (hbx.mono hws5)
           have z1:W10.cell? ⟨gp,1,none⟩=some (.slice (some ⟨NB,0,none⟩) m m):=by
            have h:=HF9.out.c1
            rw[HPD.out.1] at h
            rw[hW10]
            exact PanF.oth (PanF.oth h hneV) hneL
           obtain⟨vs,hn1⟩:∃ vs:Nat→Value,W10.rowIs NB 22 m vs:=by
            obtain⟨vs,n1,_⟩:=HF9.out.nx
            rw[HPD.out.1] at n1
            refine⟨vs,?_⟩
            rw[hW10]
            exact World.rowIs.of_block n1 ((Below.heap_setCell _ _ _ NB hneNL).trans (Below.heap_setCell _ _ _ NB hneNV))
           have hlg10:gp < W10.heap.size:=zM W10 _ z1
           have y0:=hn1.cell hi
           have y1:=hn1.frozen i
           have HNX:=zN (HPD.out.2.2.2 i)
           have HAR:=zN (around_any n h1 h8 A Bb g _ cap m L HL.out hm i hi (c:Int) W10.drew (HV.out.below hbv.drew) (HN.out.below hbx.drew))
           have HW10:=zN hW10
           rw[←hW10]
           clear hneV hneL hneNL hneNV hW10 hbx hbv hn1 v0 v1 l0 l1 s0 s2 s7
           refine RY.region RX.fN (fun w'=>w'.cell? ⟨gp,1,none⟩=some (.slice (some ⟨NB,0,none⟩) m m)) (by kernel_rfl) (by kernel_rfl) (z1) (fun OPS HO QR hQR=>?_)
           repeat (refine zeY (fun R hR=>?_);(first|refine zaY (by first|rfl|(rw[HO.out];rfl)) (by simp only[zA,zB,zC,zD];rfl) ?_|refine zbY (by first|rfl|(rw[HO.out];rfl)) rfl (by first|exact .inl rfl|exact .inr rfl) (by simp only[zE,zF,zG,zH];rfl) (by simp only[zA,zB,zC,zD];rfl) ?_|refine zcY (by first|rfl|(rw[HO.out];rfl)) rfl rfl (by simp only[zE,zF,zG,zH];rfl) (by simp only[zA,zB,zC,zD];rfl) ?_|(refine zdY (by first|rfl|(rw[HO.out];rfl)) rfl rfl rfl ?_;apply zEx;apply zEx;refine⟨fun w' hS K hK=>?_,?_,?_⟩;(focus (skip;go_wp2;exact hK _ _ (by simp only[zl,zG,zH];first|exact zf (by omega)|exact zg (by omega)|exact zh (by omega)|exact zi (by omega)|exact zj (by omega)|exact zk (by omega)|exact RX.bneB _|rfl) rfl));(focus (simp only[zA,zB,zC,zD];rfl))));refine hR _ _ ?_;clear hR R)
           refine zeY (fun R hR=>?_)
           refine zgY (by first|rfl|(rw[HO.out];rfl)) rfl (fun K hK=>?_)
           go_wp2_with fail
           refine HAR.out.mono ?_
           rintro e w11 ⟨v,rfl,hv,hb11⟩
           obtain⟨pv0,cv0,rfl,_⟩:=own_slice hv
           obtain⟨ll,hll⟩:∃ ll,ll=(aroL n L (c:Int) i).length:=⟨_,rfl⟩
           have HLL:=zN hll.symm
           have hb11':Below W10.heap.size W10 w11:=(zBd (zBr _ _)).trans hb11
           have u0:=zP hb11' y0
           have u1:w11.frozen? ⟨NB,i,none⟩=false:=(hb11'.frozen (show NB < W10.heap.size by omega)).trans y1
           have u2:=zP hb11' z1
           have HFS:Hid (PanF W6 (w11.setCell ⟨NB,i,none⟩ (.slice pv0 ll cv0)) gp VB NB LB P (i+1)):=zN (PanF.step HF9.out (by rw[HPD.out.1];exact hi) (by rw[←HW10.out];exact hb11') (by rw[HNX.out,←HLL.out];exact own_mono hv (by exact hlg10)))
           rw[←hll]
           clear hb11 hb11' y0 y1 z1 hv hll
           refine hK _ _ ⟨.inr (u2),hR _ _ ?_⟩;clear hK K hR R
           repeat (refine zeY (fun R hR=>?_);(first|refine zaY (by first|rfl|(rw[HO.out];rfl)) (by simp only[zA,zB,zC,zD];rfl) ?_|refine zbY (by first|rfl|(rw[HO.out];rfl)) rfl (by first|exact .inl rfl|exact .inr rfl) (by simp only[zE,zF,zG,zH];rfl) (by simp only[zA,zB,zC,zD];rfl) ?_|refine zcY (by first|rfl|(rw[HO.out];rfl)) rfl rfl (by simp only[zE,zF,zG,zH];rfl) (by simp only[zA,zB,zC,zD];rfl) ?_|(refine zdY (by first|rfl|(rw[HO.out];rfl)) rfl rfl rfl ?_;apply zEx;apply zEx;refine⟨fun w' hS K hK=>?_,?_,?_⟩;(focus (skip;go_wp2;exact hK _ _ (by simp only[zl,zG,zH];first|exact zf (by omega)|exact zg (by omega)|exact zh (by omega)|exact zi (by omega)|exact zj (by omega)|exact zk (by omega)|exact RX.bneB _|rfl) rfl));(focus (simp only[zA,zB,zC,zD];rfl))));refine hR _ _ ?_;clear hR R)
           refine zeY (fun R hR=>?_)
           refine zgY (by first|rfl|(rw[HO.out];rfl)) rfl (fun K hK=>?_)
           go_wp2
           first|refine⟨(by first|exact .inl rfl|exact .inl trivial|trivial),hR _ _ (RY.wpL_nil (hQR _ _ ?_))⟩|refine hR _ _ (RY.wpL_nil (hQR _ _ ?_))|refine hQR _ _ ?_
           (try clear hR);(try clear R);clear hQR QR HO OPS
           go_wp2
           go_roundw
           case rel=>exact⟨i+1,by omega,by go_num,HFS.out⟩
           case measure=>simp[intOf]<;>omega
          ·have hdi:decide ((i:Int) < (m:Int))=false:=zDf (by omega)
           obtain rfl:m=i:=by omega
           have HPA:Hid (PanAt wr gp VB NB LB P P.pr):=zN (PanF.done (by rw[HPD.out.1];exact hF))
           have hne:=hF.ne
           have hge:=hF.ge
           have hlg:=hF.lt
           have HBF:=zN hF.below
           clear hF
           go_wp2_with fail
           refine (judge_any gp VB NB LB P P.pr HPO.out (Keeps.start P) wr HPA.out).mono ?_
           rintro e w12 ⟨rfl,hPL,hg12⟩
           have hb12:Below W6.heap.size W6 w12:=HBF.out.grown hg12 HBF.out.size (fun k hk=>by injection hk with hk;omega)
           have HB12:=zN hb12
           have HR12:=zN (own_below HROW.out hb12)
           have q2:=hPL.c2
           rw[HPD.out.1] at q2
           have hLF:=hPL.lf
           rw[HPD.out.1] at hLF
           have hs12:=hg12.size
           have HLF:=zN hLF
           clear hPL hg12 hb12 HPA hLF
           go_wp2
           go_loopw [107,8] (fun v107 v8 wx=>∃ i:Nat,i≤m∧v107=.int .i64 (i:Int)∧FlOwn wx w5.heap.size v8 (outC n L bd c ++ ((List.range i).filter (rej P)).map (fun i:Nat=>((i:Int),(c:Int))))∧wx.cell? ⟨gp,2,none⟩=some (.slice (some ⟨LB,0,none⟩) m m)∧Hid (BRow wx LB m (left P))∧Below w5.heap.size w5 wx∧w12.heap.size≤wx.heap.size∧Hid (∀ q,v8.ownBlock=some q→q < W6.heap.size∨w12.heap.size≤q)) (fun v107 _ _=>m-(intOf v107).toNat)
           case atStart=>exact⟨0,by omega,rfl,(by rw[show (List.range 0).filter (rej P)=[] from rfl,List.map_nil,List.append_nil];exact HR12.out),q2,HLF,HB.out.trans (HB12.out.mono HB.out.size),Nat.le_refl _,zN (fun q hq=>.inl (World.ownsRow.lt HROW.out q hq).2)⟩
           case round=>
            clear q2 HLF HR12
            obtain⟨i,him,rfl,hrow,q2,HLF,hbx,hsx,HQ⟩:=hrel
            by_cases hi:i < m
            ·have hdi:decide ((i:Int) < (m:Int))=true:=zDt (by omega)
             have hi0:(0:Int)≤(i:Int):=by omega
             have hi1:(i:Int) < (m:Int):=by omega
             have hil:i < L.length:=by rw[HL.out];exact hi
             have hbw:Below w.heap.size w wr:=HB5.out.trans (hbx.mono HB5.out.size)
             have hVw:=HV.out.below hbw
             obtain⟨bb,o,rfl,hbbl,hrp⟩:=hVw.cell (by omega)
             have hri:=hrp i hil
             have hok:=hVw.r _ (List.getElem_mem hil)
             rw[←bat_eq hil] at hri hok
             obtain⟨x,hx⟩:∃ x,x=bat L i:=⟨_,rfl⟩
             rw[←hx] at hri hok
             obtain⟨q,cq,hrd,hR⟩:=hok.ex
             obtain⟨nr,hnr⟩:∃ nr,nr=x.2.length:=⟨_,rfl⟩
             have hnr9:nr≤1000000000:=by rw[hnr];exact hok.len
             obtain⟨c0,c1,c2,c3,c4,c5,c6,c7,_⟩:=hri
             rw[hrd,←hnr] at c7
             have hbA:Below wr.heap.size wr (wr.alloc (.cells #[.int .i64 x.1.kind,.string x.1.name,.int .i64 x.1.time,.int .i64 x.1.f,.int .i64 x.1.a,.int .i64 x.1.b,.int .i64 x.1.c,.slice q nr cq] 44)):=(zBr _ _).alloc (Nat.le_refl _) _
             have HBA:=zN hbA
             have HC:=zN (find_any q x.2 cq nr (c:Int) _ hnr.symm (hR.below hbA) hnr9)
             have HFS:=zN (filt_succ (rej P) i)
             have hpr:P.pr i=fB x.2 (c:Int):=by rw[hx];exact HPD.out.2.1 i
             obtain⟨fb,hfb⟩:∃ fb,fb=fB x.2 (c:Int):=⟨_,rfl⟩
             rw[←hfb] at HC hpr
             have HRJ:Hid (rej P i=(fb && !left P i)):=zN (by unfold rej;rw[hpr])
             have HROW:=zN hrow
             have HBX:=zN hbx
             clear hbw hVw hrp hok hx hrd hR hnr hbA hpr hfb hrow hbx
             go_wp2_with fail
             refine HC.out.mono ?_
             rintro e w13 ⟨rfl,hb13⟩
             have hb13':Below wr.heap.size wr w13:=HBA.out.trans (hb13.mono HBA.out.size)
             have t2:=zP hb13' q2
             have HLF13:=zN (HLF.out.below hb13')
             have t3:=HLF13.out.cell hi
             have HB13:=zN (HBX.out.trans (hb13'.mono HBX.out.size))
             have HR13:=zN (own_below HROW.out hb13')
             have hs13:w12.heap.size≤w13.heap.size:=Nat.le_trans hsx hb13'.size
             obtain⟨lf,hlf⟩:∃ lf,lf=left P i:=⟨_,rfl⟩
             rw[←hlf] at t3 HRJ
             clear hb13 hb13' c0 c1 c2 c3 c4 c5 c6 c7 HC q2 hlf
             cases fb with
             |false=>
              have HF:Hid ((List.range (i+1)).filter (rej P)=(List.range i).filter (rej P)):=zN (by rw[HFS.out,HRJ.out,Bool.false_and,if_neg (by simp),List.append_nil])
              go_wp2
              go_roundw
              case rel=>exact⟨i+1,by omega,by go_num,by rw[HF.out];exact HR13.out,t2,HLF13,HB13.out,hs13,HQ⟩
              case measure=>simp[intOf]<;>omega
             |true=>
              cases lf with
              |true=>
               have HF:Hid ((List.range (i+1)).filter (rej P)=(List.range i).filter (rej P)):=zN (by rw[HFS.out,HRJ.out];simp)
               go_wp2
               go_roundw
               case rel=>exact⟨i+1,by omega,by go_num,by rw[HF.out];exact HR13.out,t2,HLF13,HB13.out,hs13,HQ⟩
               case measure=>simp[intOf]<;>omega
              |false=>
               have HF:Hid (outC n L bd c ++ ((List.range (i+1)).filter (rej P)).map (fun i:Nat=>((i:Int),(c:Int)))=outC n L bd c ++ ((List.range i).filter (rej P)).map (fun i:Nat=>((i:Int),(c:Int))) ++ [((i:Int),(c:Int))]):=zN (by rw[HFS.out,HRJ.out];simp)
               have hown:=HR13.out
               have hFl:(outC n L bd c ++ ((List.range i).filter (rej P)).map (fun i:Nat=>((i:Int),(c:Int)))).length≤2000000:=by
                have h1:=outC_len n L bd c
                have h2:=filt_le (rej P) i
                have h3:c*L.length≤11*100000:=Nat.mul_le_mul (by omega) (by rw[HL.out];exact hm)
                rw[List.length_append,List.length_map]
                omega
               obtain⟨F,hFe⟩:∃ F,F=outC n L bd c ++ ((List.range i).filter (rej P)).map (fun i:Nat=>((i:Int),(c:Int))):=⟨_,rfl⟩
               rw[←hFe] at hown hFl HF
               obtain⟨p8,c8,rfl,hc8⟩:=own_slice hown
               have hs6:=HB13.out.size
               clear hFe
               go_wp2_with (refine RX.wpl_app (by rfl) elFlag _ _ (by rfl) w5.heap.size _ _ _ (World.ownsRow.alloc hown _) (by rfl) w13.heap.size _ 1 (by rfl) (heap_alloc_new _ _) (by rfl) (by simp[Value.oneCell']) (by omega) (by omega) (by simp;omega) ?_;intro vq w14 hown14 hb14 hg14 hat14)
               have g13:w13.grownBy w14 (Value.slice p8 F.length c8).ownBlock:=(World.grownBy_alloc w13 _ _).trans hg14
               have hnq:∀ b,W6.heap.size≤b→b < w12.heap.size→some b≠(Value.slice p8 F.length c8).ownBlock:=fun b h1 h2 e=>by
                rcases HQ.out b e.symm with h|h<;>omega
               have hlgp:gp < w12.heap.size:=Nat.lt_of_lt_of_le hlg hs12
               have f2:=g13.cell t2 (hnq gp (by omega) hlgp)
               have f3:Hid (BRow w14 LB m (left P)):=zN (HLF13.out.of_block (g13.block LB HLF13.out.lt (hnq LB (by omega) (by omega))))
               have f4:Hid (Below w5.heap.size w5 w14):=zN (HB13.out.trans (((zBr _ _).alloc hs6 _).trans hb14))
               have f5:w12.heap.size≤w14.heap.size:=Nat.le_trans hs13 g13.size
               have f6:Hid (∀ q,vq.ownBlock=some q→q < W6.heap.size∨w12.heap.size≤q):=zN (fun q hq=>by
                rcases hat14 with h|h
                ·rw[h] at hq;exact HQ.out q hq
                ·rw[h] at hq
                 injection hq with hq
                 simp at hq
                 omega)
               have f1:Hid (FlOwn w14 w5.heap.size vq (F ++ [((i:Int),(c:Int))])):=zN (FlOwn.snoc hown14)
               clear hown14 hb14 hg14 hat14 g13 hnq
               go_roundw
               case rel=>exact⟨i+1,by omega,by go_num,by rw[HF.out];exact f1.out,f2,f3,f4.out,f5,f6⟩
               case measure=>simp[intOf]<;>omega
            ·have hdi:decide ((i:Int) < (m:Int))=false:=zDf (by omega)
             obtain rfl:m=i:=by omega
             rw[←HO.out] at hrow
             have HRX:=zN hrow
             have HBX:=zN hbx
             clear hrow hbx
             go_wp2
             go_roundw
             case rel=>exact⟨c+1,by omega,by go_num,HRX.out,HBX.out⟩
             case measure=>simp[intOf]<;>omega
       ·have hdc:decide ((c:Int) < 12)=false:=zDf (by omega)
        obtain rfl:c=12:=by omega
        obtain⟨p8,c8,g8,rfl,hc8,hg8,hp8,hH8⟩:=FlOwn.holds hrow
        have hle:(outC n L bd 12).length≤1000000:=by
         have h1:=outC_len n L bd 12
         rw[HL.out] at h1
         have h2:=HM5.out
         omega
        have HCL2:Hid (CL=sort2 (outC n L bd 12)):=zN (by rw[HCL.out,if_pos trivial];rfl)
        obtain⟨F,hF⟩:∃ F,F=outC n L bd 12:=⟨_,rfl⟩
        rw[←hF] at hc8 hp8 hH8 hle HCL2 ⊢
        have HB:=zN (HB5.out.trans (hb.mono HB5.out.size))
        have hsz:=(HB5.out.trans (hb.mono HB5.out.size)).size
        have hs5:=HB5.out.size
        clear hF hrow hb
        go_wp2_with fail
        refine (sortFlag_any wr g8 F p8 c8 hp8 hH8 hc8 hle).mono ?_
        rintro e w15 ⟨rfl,hg15,d,hperm,hsort,hHd⟩
        have HB15:Hid (Below w.heap.size w w15):=zN (HB.out.grown hg15 HB.out.size (fun k hk=>by injection hk with hk;omega))
        have HFA:Hid (FlAt w15 (.slice p8 F.length c8) CL):=zN (by
         rw[HCL2.out,←sort2_one hperm hsort,←hperm.length_eq]
         exact FlAt.of_holds hHd (fun h=>hp8 (by rw[←hperm.length_eq];exact h)) (by rw[hperm.length_eq];exact hc8))
        clear hg15 hperm hsort hHd hH8 hp8
        go_wp2
        go_ret2
        exact⟨_,rfl,HB15.out,HFA.out⟩
   ·have hne:(er != 0)=true:=by rw[bne_iff_ne];exact h0
    go_wp2
    go_ret2
    exact⟨_,rfl,HB3.out,by rw[HCL.out,if_neg h0];exact FlAt.nil _⟩
end Go.Proofs.YtednaajanciabaaGreatDoor
