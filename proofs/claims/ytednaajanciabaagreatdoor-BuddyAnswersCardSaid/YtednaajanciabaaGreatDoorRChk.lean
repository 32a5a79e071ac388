import Derived.Test.YtednaajanciabaaGreatDoorKBFl
import Derived.Test.YtednaajanciabaaGreatDoorKRegion
import Derived.Deep.CutBlock
set_option maxRecDepth 100000
set_option maxHeartbeats 8000000
set_option linter.unusedSimpArgs false
set_option linter.unusedVariables false
namespace Go.Proofs.YtednaajanciabaaGreatDoor
open Go.RowKit Go.Grid Go.Buddy
def okTo (fb:Bool) (f:Nat→Int) (i:Nat):Bool:=fb && (List.range i).all (fun j=>decide (0≤f j∧f j≤10000))
theorem okTo_zero (fb:Bool) (f:Nat→Int):okTo fb f 0=fb:=by simp[okTo]
theorem okTo_succ (fb:Bool) (f:Nat→Int) (i:Nat):okTo fb f (i+1)=(okTo fb f i && decide (0≤f i∧f i≤10000)):=by
 unfold okTo
 rw[List.range_succ,List.all_append,Bool.and_assoc]
 simp
theorem okTo_lim (fb:Bool) (f:Nat→Int):okTo fb f 12=(fb && !limB f):=by
 have e:∀ x:Int,decide (0≤x∧x≤10000)=!decide (x < 0∨10000 < x):=fun x=>by
  by_cases h:0≤x∧x≤10000
  ·rw[zDt h,zDf (by omega)];rfl
  ·rw[zDf h,zDt (by omega)];rfl
 unfold okTo limB bdL
 simp only[List.range,List.range.loop,List.all_cons,List.all_nil,List.any_cons,List.any_nil,e,Bool.not_or,Bool.not_false,Bool.and_true,Bool.or_false]
theorem elBo:RX.ElemOf Tryz.prog 37 4 (.bool false) 1 1:=⟨Tryz.underlying37,by kernel_rfl,rfl,by decide⟩
theorem rcheck_any (p:Option Addr) (cap m:Nat) (L:List BR) (hl:L.length=m) (hm5:m≤50000) (k:Ctl) (w:World) (hV:VecB w p L) :
  Calls Tryz.prog 24 #[.slice p m cap,ctv k] w fun e w'=>∃ v,e=.returned (.tuple #[v,.int .i64 (chkE k L)])∧Below w.heap.size w w'∧FlAt w' v (chkL k L):=by
 have hm:m≤100000:=by omega
 have HM5:=zN hm5
 have HCL:Hid (chkL k L=if chkE k L=0 then sort2 (outC k.fr.toNat L k.bd 12) else []):=zN rfl
 generalize chkL k L=CL at *
 clear hm5
 have HV:=zN hV
 have HL:=zN hl
 have HE:Hid (chkE k L=if (1≤k.fr∧k.fr≤8)∧limB k.bd=false then exE L else 1):=zN rfl
 have HCK:Hid (ctv k=ctv k):=zN rfl
 generalize chkE k L=er at *
 obtain⟨hops,st,sp,th,bd,fr,en,lv⟩:=k
 unfold ctv
 dsimp only at HE HCL ⊢
 clear hV hl HCK
 go_enter Tryz.func24,Tryz.ntmps24
 go_upto_region 1 with fail
 go_cut [6] from 20 to 28 (fun v6 wx=>v6=.bool (decide (1≤fr∧fr≤8))∧Hid (Below w.heap.size w wx)∧Hid (∀ j,j < 12→wx.cell? ⟨w.heap.size,26+j,none⟩=some (.int .i64 (bd j)))∧wx.cell? ⟨w.heap.size,38,none⟩=some (.int .i64 fr))
 case first=>
  have HCC:Hid (∀ j,j < 12→(w.alloc (.cells #[.int .i64 hops,.int .i64 (st 0),.int .i64 (st 1),.int .i64 (st 2),.int .i64 (st 3),.int .i64 (st 4),.int .i64 (st 5),.int .i64 (st 6),.int .i64 (st 7),.int .i64 (st 8),.int .i64 (st 9),.int .i64 (st 10),.int .i64 (st 11),.int .i64 (sp 0),.int .i64 (sp 1),.int .i64 (sp 2),.int .i64 (sp 3),.int .i64 (sp 4),.int .i64 (sp 5),.int .i64 (sp 6),.int .i64 (sp 7),.int .i64 (sp 8),.int .i64 (sp 9),.int .i64 (sp 10),.int .i64 (sp 11),.int .i64 th,.int .i64 (bd 0),.int .i64 (bd 1),.int .i64 (bd 2),.int .i64 (bd 3),.int .i64 (bd 4),.int .i64 (bd 5),.int .i64 (bd 6),.int .i64 (bd 7),.int .i64 (bd 8),.int .i64 (bd 9),.int .i64 (bd 10),.int .i64 (bd 11),.int .i64 fr,.int .i64 en,.int .i64 lv] 29)).cell? ⟨w.heap.size,26+j,none⟩=some (.int .i64 (bd j))):=zN (fun j hj=>by
   have hc:j=0∨j=1∨j=2∨j=3∨j=4∨j=5∨j=6∨j=7∨j=8∨j=9∨j=10∨j=11:=by omega
   rcases hc with rfl|rfl|rfl|rfl|rfl|rfl|rfl|rfl|rfl|rfl|rfl|rfl<;>exact (by simp[zO,zJ,zQ]))
  have HBB:Hid (Below w.heap.size w (w.alloc (.cells #[.int .i64 hops,.int .i64 (st 0),.int .i64 (st 1),.int .i64 (st 2),.int .i64 (st 3),.int .i64 (st 4),.int .i64 (st 5),.int .i64 (st 6),.int .i64 (st 7),.int .i64 (st 8),.int .i64 (st 9),.int .i64 (st 10),.int .i64 (st 11),.int .i64 (sp 0),.int .i64 (sp 1),.int .i64 (sp 2),.int .i64 (sp 3),.int .i64 (sp 4),.int .i64 (sp 5),.int .i64 (sp 6),.int .i64 (sp 7),.int .i64 (sp 8),.int .i64 (sp 9),.int .i64 (sp 10),.int .i64 (sp 11),.int .i64 th,.int .i64 (bd 0),.int .i64 (bd 1),.int .i64 (bd 2),.int .i64 (bd 3),.int .i64 (bd 4),.int .i64 (bd 5),.int .i64 (bd 6),.int .i64 (bd 7),.int .i64 (bd 8),.int .i64 (bd 9),.int .i64 (bd 10),.int .i64 (bd 11),.int .i64 fr,.int .i64 en,.int .i64 lv] 29))):=zN ((zBr _ _).alloc (Nat.le_refl _) _)
  by_cases h1:1≤fr
  ·have hd1:decide (1≤fr)=true:=zDt h1
   by_cases h8:fr≤8
   ·have hd8:decide (fr≤8)=true:=zDt h8
    have HF:Hid (decide (1≤fr∧fr≤8)=true):=zN (zDt ⟨h1,h8⟩)
    go_wp2
    go_meet
    case rel=>exact⟨by rw[HF.out],HBB,HCC,(by simp[zO,zJ,zQ])⟩
   ·have hd8:decide (fr≤8)=false:=zDf h8
    have HF:Hid (decide (1≤fr∧fr≤8)=false):=zN (zDf (fun h=>h8 h.2))
    clear h8
    go_wp2
    go_meet
    case rel=>exact⟨by rw[HF.out],HBB,HCC,(by simp[zO,zJ,zQ])⟩
  ·have hd1:decide (1≤fr)=false:=zDf h1
   have HF:Hid (decide (1≤fr∧fr≤8)=false):=zN (zDf (fun h=>h1 h.1))
   clear h1
   go_wp2
   go_meet
   case rel=>exact⟨by rw[HF.out],HBB,HCC,(by simp[zO,zJ,zQ])⟩
 case rest=>
  obtain⟨rfl,HB1,HC1,c38⟩:=hcut
  generalize wc=W1 at *
  obtain⟨fb,hfb⟩:∃ fb,fb=decide (1≤fr∧fr≤8):=⟨_,rfl⟩
  rw[←hfb]
  have HFB:=zN hfb
  clear hfb
  generalize Value.agg #[.int .i64 hops,.int .i64 (st 0),.int .i64 (st 1),.int .i64 (st 2),.int .i64 (st 3),.int .i64 (st 4),.int .i64 (st 5),.int .i64 (st 6),.int .i64 (st 7),.int .i64 (st 8),.int .i64 (st 9),.int .i64 (st 10),.int .i64 (st 11),.int .i64 (sp 0),.int .i64 (sp 1),.int .i64 (sp 2),.int .i64 (sp 3),.int .i64 (sp 4),.int .i64 (sp 5),.int .i64 (sp 6),.int .i64 (sp 7),.int .i64 (sp 8),.int .i64 (sp 9),.int .i64 (sp 10),.int .i64 (sp 11),.int .i64 th,.int .i64 (bd 0),.int .i64 (bd 1),.int .i64 (bd 2),.int .i64 (bd 3),.int .i64 (bd 4),.int .i64 (bd 5),.int .i64 (bd 6),.int .i64 (bd 7),.int .i64 (bd 8),.int .i64 (bd 9),.int .i64 (bd 10),.int .i64 (bd 11),.int .i64 fr,.int .i64 en,.int .i64 lv]=cv at *
  go_wp2
  go_loopw [7,6] (fun v7 v6 wr=>∃ i:Nat,i≤12∧v7=.int .i64 (i:Int)∧v6=.bool (okTo fb bd i)∧wr=W1) (fun v7 _ _=>12-(intOf v7).toNat)
  case atStart=>exact⟨0,by omega,rfl,by rw[okTo_zero],rfl⟩
  case round=>
   obtain⟨i,hi12,rfl,rfl,rfl⟩:=hrel
   by_cases hi:i < 12
   ·have hdi:decide ((i:Int) < 12)=true:=zDt (by omega)
    have hi0:(0:Int)≤(i:Int):=by omega
    have hi1:(i:Int) < 12:=by omega
    have hci:=HC1.out i hi
    have HO:=zN (okTo_succ fb bd i)
    obtain⟨ob,hob⟩:∃ ob,ob=okTo fb bd i:=⟨_,rfl⟩
    rw[←hob] at HO ⊢
    clear hob
    obtain⟨x,hx⟩:∃ x,x=bd i:=⟨_,rfl⟩
    rw[←hx] at hci HO
    clear hx
    cases ob with
    |false=>
     have HO2:Hid (okTo fb bd (i+1)=false):=zN (by rw[HO.out];rfl)
     go_wp2
     go_roundw
     case rel=>exact⟨i+1,by omega,by go_num,by rw[HO2.out],by first|rfl|trivial⟩
     case measure=>simp[intOf]<;>omega
    |true=>
     by_cases hx0:0≤x
     ·have hd0:decide (0≤x)=true:=zDt hx0
      by_cases hx1:x≤10000
      ·have hd1:decide (x≤10000)=true:=zDt hx1
       have HO2:Hid (okTo fb bd (i+1)=true):=zN (by rw[HO.out,zDt ⟨hx0,hx1⟩];rfl)
       go_wp2
       go_roundw
       case rel=>exact⟨i+1,by omega,by go_num,by rw[HO2.out],by first|rfl|trivial⟩
       case measure=>simp[intOf]<;>omega
      ·have hd1:decide (x≤10000)=false:=zDf hx1
       have HO2:Hid (okTo fb bd (i+1)=false):=zN (by rw[HO.out,zDf (fun h=>hx1 h.2)];rfl)
       clear hx1
       go_wp2
       go_roundw
       case rel=>exact⟨i+1,by omega,by go_num,by rw[HO2.out],by first|rfl|trivial⟩
       case measure=>simp[intOf]<;>omega
     ·have hd0:decide (0≤x)=false:=zDf hx0
      have HO2:Hid (okTo fb bd (i+1)=false):=zN (by rw[HO.out,zDf (fun h=>hx0 h.1)];rfl)
      clear hx0
      go_wp2
      go_roundw
      case rel=>exact⟨i+1,by omega,by go_num,by rw[HO2.out],by first|rfl|trivial⟩
      case measure=>simp[intOf]<;>omega
   ·have hdi:decide ((i:Int) < 12)=false:=zDf (by omega)
    obtain rfl:i=12:=by omega
    have HO:=zN (okTo_lim fb bd)
    obtain⟨ob,hob⟩:∃ ob,ob=okTo fb bd 12:=⟨_,rfl⟩
    rw[←hob] at HO ⊢
    clear hob
    generalize wr=W1 at *
    cases ob with
    |false=>
     have HEE:Hid (er=1):=zN (by
      rw[HE.out,if_neg]
      rintro⟨h1,h2⟩
      have h:=HO.out
      rw[HFB.out,zDt h1,h2] at h
      cases h)
     go_wp2
     go_ret2
     exact⟨_,by rw[HEE.out];rfl,HB1.out,by rw[HCL.out,HEE.out];exact FlAt.nil _⟩
    |true=>
     have HFL:Hid ((1≤fr∧fr≤8)∧limB bd=false):=zN (by
      have h:=HO.out.symm
      rw[Bool.and_eq_true] at h
      obtain⟨h1,h2⟩:=h
      rw[HFB.out] at h1
      exact⟨of_decide_eq_true h1,by simpa using h2⟩)
     have HEE:Hid (er=exE L):=zN (by rw[HE.out,if_pos HFL.out])
     clear HO HE
     go_wp2_with fail
     refine (rpossible_any p cap m L HL.out (by omega) W1 (HV.out.below HB1.out)).mono ?_
     rintro e w2 ⟨rfl,hb2⟩
     rw[←HEE.out]
     have HB2:=zN (HB1.out.trans (hb2.mono HB1.out.size))
     have HC2:Hid (∀ j,j < 12→w2.cell? ⟨w.heap.size,26+j,none⟩=some (.int .i64 (bd j))):=zN (fun j hj=>zP hb2 (HC1.out j hj))
     have d38:=zP hb2 c38
     clear hb2 c38 HC1
     by_cases h0:er=0
     rotate_left
     ·have hne:(er != 0)=true:=by rw[bne_iff_ne];exact h0
      go_wp2
      go_ret2
      exact⟨_,rfl,HB2.out,by rw[HCL.out,if_neg h0];exact FlAt.nil _⟩
     ·subst h0
      obtain⟨h1,h8⟩:=HFL.out.1
      obtain⟨n,rfl⟩:∃ n:Nat,fr=(n:Int):=⟨fr.toNat,by omega⟩
      replace h1:1≤n:=by omega
      replace h8:n≤8:=by omega
      have HX:=zN (exE_ok HEE.out.symm)
      have HCL2:Hid (CL=sort2 (outC n L bd 12)):=zN (by rw[HCL.out,if_pos rfl];rfl)
      clear HFL HEE HCL
      go_wp2_with fail
      refine (rclose_any n h1 h8 p cap m L HL.out hm w2 (HV.out.below HB2.out) HX.out.1).mono ?_
      rintro e w3 ⟨C,rfl,hN,hC,hb3⟩
      have HA3:=zN (AroAt.of_next hN)
      have HB3:=zN (HB2.out.trans (hb3.mono HB2.out.size))
      have HC3:Hid (∀ j,j < 12→w3.cell? ⟨w.heap.size,26+j,none⟩=some (.int .i64 (bd j))):=zN (fun j hj=>zP hb3 (HC2.out j hj))
      clear hb3 hN hC d38 HC2
      have hmB:=run_make_row' (P:=Tryz.prog) 97 37 (.slice none 0 0) 24 Tryz.underlying97 (by kernel_rfl) rfl .i64 .i64 12 (by omega) (by omega)
      simp only[show ((12:Nat):Int)=12 from rfl] at hmB
      have hm1:=run_make_row' (P:=Tryz.prog) 37 4 (.bool false) 1 Tryz.underlying37 (by kernel_rfl) rfl .i64 .i64 m (by omega) (by omega)
      go_wp2
      refine absW (F:=fun w'=>Hid (BadAt w' w3.heap.size m (badF n L bd) 1)∧Hid (Below w3.heap.size w3 w')) ⟨zN (BadAt.start _ _ _),zN ((zBr _ _).alloc (Nat.le_refl _) _)⟩ ?_
      rintro w4 ⟨HBD,HB4⟩
      obtain⟨BD,hBD⟩:∃ BD,BD=w3.heap.size:=⟨_,rfl⟩
      rw[←hBD] at HBD ⊢
      have HBQ:=zN hBD
      clear hBD hmB
      go_loopw [11] (fun v11 wr=>∃ c:Nat,1≤c∧c≤12∧v11=.int .i64 (c:Int)∧Hid (BadAt wr BD m (badF n L bd) c)∧Hid (Below w3.heap.size w3 wr)) (fun v11 _=>12-(intOf v11).toNat)
      case atStart=>exact⟨1,by omega,by omega,rfl,HBD,HB4⟩
      case round=>
       clear HBD HB4
       obtain⟨c,hc1,hc12,rfl,HBD,HBW⟩:=hrel
       by_cases hc:c < 12
       ·have hdc:decide ((c:Int)≤11)=true:=zDt (by omega)
        have hc0:(0:Int)≤(c:Int):=by omega
        have hcI:(c:Int) < 12:=by omega
        obtain⟨vs,bs,hr1,hr2⟩:=HBD.out.ex
        have y0:=hr1.cell hc
        have y1:=hr1.frozen c
        have hbl:=hr1.lt
        have hbx:=zP HBW.out (HC3.out c hc)
        have hw3:=HBW.out.size
        have hgb:w.heap.size < BD:=by rw[HBQ.out];exact zM _ _ (HC3.out c hc)
        have hBq:w3.heap.size≤BD:=by rw[HBQ.out];exact Nat.le_refl _
        have hne:¬ w.heap.size=BD:=by omega
        have hne2:¬ BD=w.heap.size:=by omega
        have hgw:w.heap.size < wr.heap.size:=by omega
        have hgw2:¬ w.heap.size=wr.heap.size:=by omega
        have HBI:Hid (BadIn ((wr.setCell ⟨BD,c,none⟩ (.slice (some ⟨wr.heap.size,0,none⟩) m m)).alloc (.cells (madeCells #[.bool false] m) 4)) BD m (badF n L bd) c wr.heap.size (fun _=>false)):=zN (by have h:=BadIn.open_ HBD.out;rw[World.setCell_alloc_past _ _ _ _ hbl] at h;exact h)
        have HBX:Hid (Below w3.heap.size w3 ((wr.setCell ⟨BD,c,none⟩ (.slice (some ⟨wr.heap.size,0,none⟩) m m)).alloc (.cells (madeCells #[.bool false] m) 4))):=zN ((zBs HBW.out hBq _).alloc (by simpa using hw3) _)
        have hXs:((wr.setCell ⟨BD,c,none⟩ (.slice (some ⟨wr.heap.size,0,none⟩) m m)).alloc (.cells (madeCells #[.bool false] m) 4)).heap.size=wr.heap.size+1:=by simp
        clear HBD HBW hr1 hr2
        by_cases hz:bd c=0
        ·have hzb:(bd c == 0)=true:=by rw[hz];rfl
         have HX2:=zN (HBI.out.done (fun i hi=>by unfold badF;rw[hz];simp))
         rw[hz] at hbx
         clear hz hzb HBI hXs
         go_wp2
         go_roundw
         case rel=>exact⟨c+1,by omega,by omega,by go_num,HX2,HBX⟩
         case measure=>simp[intOf]<;>omega
        ·have hzb:(bd c == 0)=false:=by rw[beq_eq_false_iff_ne];exact hz
         obtain⟨lim,hlim⟩:∃ lim,lim=bd c:=⟨_,rfl⟩
         have HFC:Hid (∀ i,i < m→badF n L bd c i=rej (panB n L lim c) i):=zN (fun i _=>by unfold badF;rw[hzb,hlim];rfl)
         rw[←hlim] at hzb hbx
         have HPD:Hid ((panB n L lim c).n=m∧∀ i,(panB n L lim c).pr i=fB (bat L i).2 (c:Int)):=zN ⟨HL.out,fun _=>rfl⟩
         have HPO:Hid (PanOk (panB n L lim c)):=zN (panB_ok (by rw[HL.out];exact hm) HX.out.2)
         have HSU:Hid (∀ S i,supB L (aroL n L (c:Int) i) S i (c:Int) lim=Go.Buddy.stands (panB n L lim c) S i):=zN (fun S i=>supB_stands n L S i c lim)
         have HAR:Hid (∀ i,(∀ k∈aroL n L (c:Int) i,k < m)∧(aroL n L (c:Int) i).length≤100000):=zN (fun i=>⟨fun k hk=>by rw[←HL.out];exact aroL_lt hk,by have h:=aroL_len n L (c:Int) i;rw[HL.out] at h;omega⟩)
         generalize panB n L lim c=P at *
         have HLIM:=zN hlim
         clear hz hlim
         go_wp2
         have HLF:Hid (BOwn (((wr.setCell ⟨BD,c,none⟩ (.slice (some ⟨wr.heap.size,0,none⟩) m m)).alloc (.cells (madeCells #[.bool false] m) 4)).alloc (.cells (madeCells #[.bool false] m) 4)) (wr.heap.size+1) (.slice (some ⟨wr.heap.size+1,0,none⟩) m m) m (fun _=>false)):=zN (by
          have h:=BOwn.made ((wr.setCell ⟨BD,c,none⟩ (.slice (some ⟨wr.heap.size,0,none⟩) m m)).alloc (.cells (madeCells #[.bool false] m) 4)) m hm
          rw[hXs] at h
          exact h)
         refine absW (F:=fun w'=>Hid (BadIn w' BD m (badF n L bd) c wr.heap.size (fun _=>false))∧Hid (BOwn w' (wr.heap.size+1) (.slice (some ⟨wr.heap.size+1,0,none⟩) m m) m (fun _=>false))∧Hid (Below w3.heap.size w3 w')) ⟨zN (HBI.out.below ((zBr _ _).alloc (Nat.le_refl _) _)),HLF,zN (HBX.out.alloc HBX.out.size _)⟩ ?_
         rintro w5 ⟨HBI5,HLF5,HB5⟩
         clear HBI HBX HLF hXs y0 y1 hbx
         have HCW:Hid (BD < wr.heap.size∧w3.heap.size≤wr.heap.size):=zN ⟨hbl,hw3⟩
         clear hbl hw3 hgw hgw2
         obtain⟨CB,hCB⟩:∃ CB,CB=wr.heap.size:=⟨_,rfl⟩
         rw[←hCB] at HBI5 HLF5 HCW ⊢
         clear hCB
         clear wr
         go_loopw [79] (fun v79 wx=>∃ i:Nat,i≤m∧v79=.int .i64 (i:Int)∧Hid (BadIn wx BD m (badF n L bd) c CB (fun _=>false))∧Hid (BOwn wx (CB+1) (.slice (some ⟨CB+1,0,none⟩) m m) m (fun j=>decide (j < i) && P.pr j))∧Hid (Below w3.heap.size w3 wx)) (fun v79 _=>m-(intOf v79).toNat)
         case atStart=>exact⟨0,by omega,rfl,HBI5,zN (HLF5.out.congr (fun j _=>by simp)),HB5⟩
         case round=>
          clear HBI5 HLF5 HB5
          obtain⟨i,him,rfl,HBI,HLF,HBW⟩:=hrel
          by_cases hi:i < m
          ·have hdi:decide ((i:Int) < (m:Int))=true:=zDt (by omega)
           have hi0:(0:Int)≤(i:Int):=by omega
           have hi1:(i:Int) < (m:Int):=by omega
           have hil:i < L.length:=by rw[HL.out];exact hi
           have hVw:=HV.out.below (HB3.out.trans (HBW.out.mono HB3.out.size))
           obtain⟨bb,o,rfl,hbbl,hrp⟩:=hVw.cell (by rw[HL.out];omega)
           have hri:=hrp i hil
           have hok:=hVw.r _ (List.getElem_mem hil)
           rw[←bat_eq hil] at hri hok
           have hpr:=HPD.out.2 i
           obtain⟨x,hx⟩:∃ x,x=bat L i:=⟨_,rfl⟩
           rw[←hx] at hri hok hpr
           obtain⟨q,cq,hrd,hR⟩:=hok.ex
           obtain⟨nr,hnr⟩:∃ nr,nr=x.2.length:=⟨_,rfl⟩
           have hnr9:nr≤1000000000:=by rw[hnr];exact hok.len
           obtain⟨c0,c1,c2,c3,c4,c5,c6,c7,_⟩:=hri
           rw[hrd,←hnr] at c7
           have HC:=zN (rfind04_any q x.2 cq nr (c:Int) wr hnr.symm hR hnr9)
           obtain⟨fi,hfi⟩:∃ fi,fi=fB x.2 (c:Int):=⟨_,rfl⟩
           rw[←hfi] at HC hpr
           have HPR:=zN hpr
           have z0:=(HLF.out.at_ hi).1
           have z1:=(HLF.out.at_ hi).2
           have hbk:=HLF.out.blk.2
           clear hVw hrp hok hx hrd hR hnr hpr hfi c0 c1 c2 c3 c4 c5 c6
           go_wp2_with fail
           refine HC.out.mono ?_
           rintro e w6 ⟨rfl,hw6⟩
           rw[←hw6]
           clear HC c7 hw6
           have hBc:=HCW.out.2
           have HBI2:=zN (HBI.out.oth (w':=wr.setCell ⟨CB+1,i,none⟩ (.bool fi)) (grw_set (grw_refl _ _) (.inl rfl)) (by omega:CB < CB+1))
           have HLF2:Hid (BOwn (wr.setCell ⟨CB+1,i,none⟩ (.bool fi)) (CB+1) (.slice (some ⟨CB+1,0,none⟩) m m) m (fun j=>decide (j < i+1) && P.pr j)):=zN ((HLF.out.set i hi fi).congr (fun j hj=>by
            by_cases e:j=i
            ·subst e;rw[if_pos rfl,zDt (by omega),HPR.out];rfl
            ·rw[if_neg e]
             have:decide (j < i+1)=decide (j < i):=by rw[decide_eq_decide];omega
             rw[this]))
           have HBW2:Hid (Below w3.heap.size w3 (wr.setCell ⟨CB+1,i,none⟩ (.bool fi))):=zN (zBs HBW.out (show w3.heap.size≤CB+1 by omega) _)
           clear hBc
           go_wp2
           go_roundw
           case rel=>exact⟨i+1,by omega,by go_num,HBI2,HLF2,HBW2⟩
           case measure=>simp[intOf]<;>omega
          ·have hdi:decide ((i:Int) < (m:Int))=false:=zDf (by omega)
           obtain rfl:i=m:=by omega
           have HI0:Hid (RInv wr BD i (badF n L bd) c CB P P.pr (.slice (some ⟨CB+1,0,none⟩) i i) true):=zN (RInv.start HBI.out HLF.out (fun j hj=>by rw[zDt hj];rfl))
           clear HBI HLF
           have HBW0:=HBW
           clear HBW
           generalize wr=W7 at *
           go_wp2
           go_loopw [14,12] (fun v14 v12 wx=>∃ (S:Nat→Bool) (ch:Bool),v14=.bool ch∧Hid (RInv wx BD i (badF n L bd) c CB P S v12 ch)∧Hid (Below w3.heap.size w3 wx)) (fun v14 v12 wx=>valB v14*(cntB i (celV wx v12)+1))
           case atStart=>exact⟨P.pr,true,rfl,HI0,HBW0⟩
           case round=>
            clear HI0 HBW0
            obtain⟨S,ch,rfl,HI,HBW⟩:=hrel
            cases ch with
            |false=>
             have HBD2:=zN (HI.out.done HPD.out.1 HFC.out)
             clear HI
             go_wp2
             go_roundw
             case rel=>exact⟨c+1,by omega,by omega,by go_num,HBD2,HBW⟩
             case measure=>simp[intOf]<;>omega
            |true=>
             obtain⟨pl,cl,rfl,hcl⟩:=own_slice HI.out.left
             have hNW:=HI.out.bad.row.lt
             have HCN:Hid (cntB i (celV wr (.slice pl i cl))=cntB i S):=zN (celV_eq HI.out.left)
             have HLW:Hid (∀ k,(Value.slice pl i cl).ownBlock=some k→k < wr.heap.size):=zN (fun k hk=>(World.ownsRow.lt HI.out.left k hk).2)
             have HBA:Hid (Below wr.heap.size wr (wr.alloc (.cells #[] 4))):=zN ((zBr _ _).alloc (Nat.le_refl _) _)
             have hnews:=HI.out.left.news HBA.out
             have hbl1:(bL i S).length=i*1:=by rw[bL_len];omega
             have hbl2:∀ u∈bL i S,u.oneCell'=true:=by
              intro u hu
              unfold bL at hu
              obtain⟨j,_,rfl⟩:=List.mem_map.1 hu
              rfl
             have HW8:=zN HBW.out.size
             clear hcl
             go_wp2_with (refine RX.wpl_appA (by rfl) elBo _ _ (by rfl) wr.heap.size (some ⟨wr.heap.size,0,none⟩) 0 0 [] (own_empty wr 4 1) (by rfl) pl i cl (bL i S) (by rfl) hbl1 hnews hbl2 (by omega) (by omega) (by simp) ?_;intro v5 w8 hown8 hb8)
             rw[Nat.zero_add,List.nil_append] at hown8
             obtain⟨p5,c5,rfl,hc5⟩:=own_slice hown8
             have hb8':Below wr.heap.size wr w8:=HBA.out.trans hb8
             have HI8:=zN (RIn5.start HI.out hb8' hown8)
             have HBW8:=zN (HBW.out.trans (hb8'.mono HW8.out))
             have HKP:=zN HI.out.keep
             obtain⟨N0,hN0⟩:∃ N0,N0=wr.heap.size:=⟨_,rfl⟩
             rw[←hN0] at hNW HI8 HLW
             have HN0:Hid (CB < N0):=zN hNW
             have HWR:=zN hN0
             clear hown8 hb8 hb8' HI HBW HBA hnews hbl1 hbl2 hc5 hN0 HW8 hNW
             go_wp2
             go_loopw [102,14] (fun v102 v14 wx=>∃ (j:Nat) (ch:Bool),j≤i∧v102=.int .i64 (j:Int)∧v14=.bool ch∧Hid (RIn5 wx BD i (badF n L bd) c CB N0 P S (.slice pl i cl) (.slice p5 i c5) ch j)∧Hid (Below w3.heap.size w3 wx)) (fun v102 _ _=>i-(intOf v102).toNat)
             case atStart=>exact⟨0,false,by omega,rfl,rfl,HI8,HBW8⟩
             case round=>
              clear HI8 HBW8
              obtain⟨j,ch,hji,rfl,rfl,HI,HBW⟩:=hrel
              by_cases hj:j < i
              ·have hdj:decide ((j:Int) < (i:Int))=true:=zDt (by omega)
               have hj0:(0:Int)≤(j:Int):=by omega
               have hj1:(j:Int) < (i:Int):=by omega
               obtain⟨lb,rfl⟩:=HI.out.left.some_ (by omega)
               obtain⟨nb,rfl⟩:=HI.out.next.some_ (by omega)
               have z0:=(HI.out.left.at_ hj).1
               have zb:wr.cell? ⟨w.heap.size,26+c,none⟩=some (.int .i64 lim):=by rw[HLIM.out];exact zP HBW.out (HC3.out c hc)
               obtain⟨sj,hsj⟩:∃ sj,sj=S j:=⟨_,rfl⟩
               rw[←hsj] at z0
               have HSJ:=zN hsj.symm
               clear hsj
               cases sj with
               |false=>
                have hSS:wr.drew.cell? ⟨lb,j,none⟩=some (.bool false)∧wr.drew.cell? ⟨w.heap.size,26+c,none⟩=some (.int .i64 lim):=⟨z0,zb⟩
                have HI2:=zN (HI.out.keep (zBd (zBr _ _)) (.inl HSJ.out))
                have HBW2:=zN HBW.out.drew
                clear z0 zb HI HBW
                go_wp2_with fail
                refine RX.region RX.fN (fun w'=>w'.cell? ⟨lb,j,none⟩=some (.bool false)∧w'.cell? ⟨w.heap.size,26+c,none⟩=some (.int .i64 lim)) (by kernel_rfl) (by kernel_rfl) (hSS) (fun OPS HO QR hQR=>?_)
                repeat (refine zeX (fun R hR=>?_);(first|refine zaX (by first|rfl|(rw[HO.out];rfl)) (by simp only[zA,zB,zC,zD];rfl) ?_|refine zbX (by first|rfl|(rw[HO.out];rfl)) rfl (by first|exact .inl rfl|exact .inr rfl) (by simp only[zE,zF,zG,zH];rfl) (by simp only[zA,zB,zC,zD];rfl) ?_|refine zcX (by first|rfl|(rw[HO.out];rfl)) rfl rfl (by simp only[zE,zF,zG,zH];rfl) (by simp only[zA,zB,zC,zD];rfl) ?_|(refine zdX (by first|rfl|(rw[HO.out];rfl)) rfl rfl rfl ?_;apply zEx;apply zEx;refine⟨fun w' hS K hK=>?_,?_,?_⟩;(focus ((obtain⟨z0,z1⟩:=hS);go_wp2;exact hK _ _ (by simp only[zl,zG,zH];first|exact zf (by omega)|exact zg (by omega)|exact zh (by omega)|exact zi (by omega)|exact zj (by omega)|exact zk (by omega)|exact RX.bneB _|rfl) rfl));(focus (simp only[zA,zB,zC,zD];rfl))));refine hR _ _ ?_;clear hR R)
                refine RX.wpL_nil (hQR _ _ (hSS) ?_);clear hQR QR HO OPS
                clear hSS
                go_wp2
                go_roundw
                case rel=>exact⟨j+1,ch,by omega,by go_num,rfl,HI2,HBW2⟩
                case measure=>simp[intOf]<;>omega
               |true=>
                have hSS:wr.drew.cell? ⟨lb,j,none⟩=some (.bool true)∧wr.drew.cell? ⟨w.heap.size,26+c,none⟩=some (.int .i64 lim):=⟨z0,zb⟩
                have HID:=zN (HI.out.below (zBd (zBr _ _)))
                have HBD:=zN HBW.out.drew
                have HBF:=zN (HB3.out.trans (HBD.out.mono HB3.out.size))
                have HNC:=zN (rneighB_any n C p cap i L HL.out hm j hj (c:Int) wr.drew (HV.out.below HBF.out) (HA3.out.below (HBD.out)))
                clear z0 zb HI HBW
                go_wp2_with fail
                refine RX.region RX.fN (fun w'=>w'.cell? ⟨lb,j,none⟩=some (.bool true)∧w'.cell? ⟨w.heap.size,26+c,none⟩=some (.int .i64 lim)) (by kernel_rfl) (by kernel_rfl) (hSS) (fun OPS HO QR hQR=>?_)
                repeat (refine zeX (fun R hR=>?_);(first|refine zaX (by first|rfl|(rw[HO.out];rfl)) (by simp only[zA,zB,zC,zD];rfl) ?_|refine zbX (by first|rfl|(rw[HO.out];rfl)) rfl (by first|exact .inl rfl|exact .inr rfl) (by simp only[zE,zF,zG,zH];rfl) (by simp only[zA,zB,zC,zD];rfl) ?_|refine zcX (by first|rfl|(rw[HO.out];rfl)) rfl rfl (by simp only[zE,zF,zG,zH];rfl) (by simp only[zA,zB,zC,zD];rfl) ?_|(refine zdX (by first|rfl|(rw[HO.out];rfl)) rfl rfl rfl ?_;apply zEx;apply zEx;refine⟨fun w' hS K hK=>?_,?_,?_⟩;(focus ((obtain⟨z0,z1⟩:=hS);go_wp2;exact hK _ _ (by simp only[zl,zG,zH];first|exact zf (by omega)|exact zg (by omega)|exact zh (by omega)|exact zi (by omega)|exact zj (by omega)|exact zk (by omega)|exact RX.bneB _|rfl) rfl));(focus (simp only[zA,zB,zC,zD];rfl))));refine hR _ _ ?_;clear hR R)
                refine zeX (fun R hR=>?_)
                refine zgX (by first|rfl|(rw[HO.out];rfl)) rfl (fun K hK=>?_)
                go_wp2_with fail
                refine HNC.out.mono ?_
                rintro e w10 ⟨v,rfl,hv,hb10⟩
                have hRd:=hv.rd
                obtain⟨pv0,cv0,rfl,_⟩:=own_slice hv
                have hb10s:=hb10.size
                have hS10:w10.cell? ⟨lb,j,none⟩=some (.bool true)∧w10.cell? ⟨w.heap.size,26+c,none⟩=some (.int .i64 lim):=⟨zP hb10 hSS.1,zP hb10 hSS.2⟩
                have HI10:=zN (HID.out.below hb10)
                have HB10:=zN (HBD.out.trans (hb10.mono HBD.out.size))
                have HVB:=zN (HV.out.below (HB3.out.trans (HB10.out.mono HB3.out.size)))
                have HNC2:=rsupp_any p cap i L HL.out hm HX.out.2 (aroL n L (c:Int) j) (HAR.out j).1 (HAR.out j).2 _ lb cl S j hj (c:Int) lim w10 HVB.out hRd (fun t ht=>(HI10.out.left.at_ ht).1)
                rw[HSU.out] at HNC2
                have HNC2:=zN HNC2
                clear hv hb10 hb10s hRd hSS HNC HID HBD
                refine hK _ _ ⟨hS10,hR _ _ ?_⟩;clear hK K hR R
                repeat (refine zeX (fun R hR=>?_);(first|refine zaX (by first|rfl|(rw[HO.out];rfl)) (by simp only[zA,zB,zC,zD];rfl) ?_|refine zbX (by first|rfl|(rw[HO.out];rfl)) rfl (by first|exact .inl rfl|exact .inr rfl) (by simp only[zE,zF,zG,zH];rfl) (by simp only[zA,zB,zC,zD];rfl) ?_|refine zcX (by first|rfl|(rw[HO.out];rfl)) rfl rfl (by simp only[zE,zF,zG,zH];rfl) (by simp only[zA,zB,zC,zD];rfl) ?_|(refine zdX (by first|rfl|(rw[HO.out];rfl)) rfl rfl rfl ?_;apply zEx;apply zEx;refine⟨fun w' hS K hK=>?_,?_,?_⟩;(focus ((obtain⟨z0,z1⟩:=hS);go_wp2;exact hK _ _ (by simp only[zl,zG,zH];first|exact zf (by omega)|exact zg (by omega)|exact zh (by omega)|exact zi (by omega)|exact zj (by omega)|exact zk (by omega)|exact RX.bneB _|rfl) rfl));(focus (simp only[zA,zB,zC,zD];rfl))));refine hR _ _ ?_;clear hR R)
                refine zeX (fun R hR=>?_)
                refine zgX (by first|rfl|(rw[HO.out];rfl)) rfl (fun K hK=>?_)
                go_wp2_with fail
                refine HNC2.out.mono ?_
                rintro e w11 ⟨rfl,hb11⟩
                have hS11:w11.cell? ⟨lb,j,none⟩=some (.bool true)∧w11.cell? ⟨w.heap.size,26+c,none⟩=some (.int .i64 lim):=⟨zP hb11 hS10.1,zP hb11 hS10.2⟩
                have HI11:=zN (HI10.out.below hb11)
                have HB11:=zN (HB10.out.trans (hb11.mono HB10.out.size))
                obtain⟨sb,hsb⟩:∃ sb,sb=Go.Buddy.stands P S j:=⟨_,rfl⟩
                rw[←hsb]
                have HSB:=zN hsb.symm
                clear hsb hb11 hS10 HNC2 HI10 HB10
                refine hK _ _ ⟨hS11,hR _ _ ?_⟩;clear hK K hR R
                repeat (refine zeX (fun R hR=>?_);(first|refine zaX (by first|rfl|(rw[HO.out];rfl)) (by simp only[zA,zB,zC,zD];rfl) ?_|refine zbX (by first|rfl|(rw[HO.out];rfl)) rfl (by first|exact .inl rfl|exact .inr rfl) (by simp only[zE,zF,zG,zH];rfl) (by simp only[zA,zB,zC,zD];rfl) ?_|refine zcX (by first|rfl|(rw[HO.out];rfl)) rfl rfl (by simp only[zE,zF,zG,zH];rfl) (by simp only[zA,zB,zC,zD];rfl) ?_|(refine zdX (by first|rfl|(rw[HO.out];rfl)) rfl rfl rfl ?_;apply zEx;apply zEx;refine⟨fun w' hS K hK=>?_,?_,?_⟩;(focus ((obtain⟨z0,z1⟩:=hS);go_wp2;exact hK _ _ (by simp only[zl,zG,zH];first|exact zf (by omega)|exact zg (by omega)|exact zh (by omega)|exact zi (by omega)|exact zj (by omega)|exact zk (by omega)|exact RX.bneB _|rfl) rfl));(focus (simp only[zA,zB,zC,zD];rfl))));refine hR _ _ ?_;clear hR R)
                refine RX.wpL_nil (hQR _ _ (hS11) ?_);clear hQR QR HO OPS
                clear hS11
                cases sb with
                |true=>
                 have HI2:=zN (HI11.out.keep (zBr _ _) (.inr HSB.out))
                 clear HI11
                 go_wp2
                 go_roundw
                 case rel=>exact⟨j+1,ch,by omega,by go_num,rfl,HI2,HB11⟩
                 case measure=>simp[intOf]<;>omega
                |false=>
                 have HPJ:Hid (P.pr j=true):=zN (HKP.out.pr j (by rw[HPD.out.1];exact hj) HSJ.out)
                 have hnb:=HI11.out.next.blk
                 have hN0:=HN0.out
                 have hBC:=HI11.out.bad.gt
                 have HI2:=zN (HI11.out.drop hj HPJ.out HSJ.out HSB.out hN0 (fun k hk=>HLW.out k hk))
                 have q0:=(HI11.out.next.at_ hj).1
                 have q1:=(HI11.out.next.at_ hj).2
                 have q2:=HI11.out.bad.cell hc
                 have q3:=HI11.out.bad.row.cell hj
                 have q4:=World.rowIs.frozen HI11.out.bad.row j
                 have hw3b:=HCW.out.2
                 have HBW2:Hid (Below w3.heap.size w3 ((w11.setCell ⟨nb,j,none⟩ (.bool false)).setCell ⟨CB,j,none⟩ (.bool true))):=zN (zBs (zBs HB11.out (show w3.heap.size≤nb by omega) _) (show w3.heap.size≤CB by omega) _)
                 have hn1:¬ nb=BD:=by omega
                 have hn2:¬ nb=CB:=by omega
                 have hn3:¬ CB=BD:=by omega
                 have hn4:¬ BD=nb:=by omega
                 have hn5:¬ CB=nb:=by omega
                 clear HI11
                 go_wp2
                 go_roundw
                 case rel=>exact⟨j+1,true,by omega,by go_num,rfl,HI2,HBW2⟩
                 case measure=>simp[intOf]<;>omega
              ·have hdj:decide ((j:Int) < (i:Int))=false:=zDf (by omega)
               obtain rfl:j=i:=by omega
               have HO:=zN (HI.out.out HKP.out HPO.out.cl HPD.out.1 (by have:=HN0.out;omega))
               have HLESS:Hid (valB (.bool ch)*(cntB j (nx5 P S j)+1) < valB (.bool true)*(cntB j S+1)):=zN (by
                cases ch with
                |false=>show 0*(cntB j (nx5 P S j)+1) < 1*(cntB j S+1);omega
                |true=>have:=HI.out.less;show 1*(cntB j (nx5 P S j)+1) < 1*(cntB j S+1);omega)
               clear HI
               go_wp2
               go_roundw
               case rel=>exact⟨nx5 P S j,ch,rfl,HO,HBW⟩
               case measure=>rw[HCN.out,celV_eq HO.out.left];exact HLESS.out
       ·have hdc:decide ((c:Int)≤11)=false:=zDf (by omega)
        obtain rfl:c=12:=by omega
        generalize wr=W6 at *
        have HFS:Hid (flsA (badF n L bd) m=CL):=zN (by rw[HCL2.out,←HL.out];exact flsA_sort HX.out.2)
        have HB6:=zN (HB3.out.trans (HBW.out.mono HB3.out.size))
        obtain⟨F,hF⟩:∃ F,F=badF n L bd:=⟨_,rfl⟩
        rw[←hF] at HBD HFS
        clear hF HBW HCL2 hm1
        go_wp2
        go_loopw [139,17] (fun v139 v17 wr=>∃ i:Nat,i≤m∧v139=.int .i64 (i:Int)∧Hid (FlOwn wr W6.heap.size v17 (flsA F i))∧Hid (Below W6.heap.size W6 wr)) (fun v139 _ _=>m-(intOf v139).toNat)
        case atStart=>exact⟨0,by omega,rfl,zN (World.ownsRow_nil _ _ _ _),zN (zBr _ _)⟩
        case round=>
         obtain⟨i,him,rfl,HR,HB⟩:=hrel
         by_cases hi:i < m
         ·have hdi:decide ((i:Int) < (m:Int))=true:=zDt (by omega)
          have hi0:(0:Int)≤(i:Int):=by omega
          have hi1:(i:Int) < (m:Int):=by omega
          have HR0:=HR
          have HB0:=HB
          clear HR HB
          go_wp2
          go_loopw [19,17] (fun v19 v17 wx=>∃ c:Nat,1≤c∧c≤12∧v19=.int .i64 (c:Int)∧Hid (FlOwn wx W6.heap.size v17 (flsA F i ++ flsE F i c))∧Hid (Below W6.heap.size W6 wx)) (fun v19 _ _=>12-(intOf v19).toNat)
          case atStart=>exact⟨1,by omega,by omega,rfl,zN (by rw[flsE_one,List.append_nil];exact HR0.out),HB0⟩
          case round=>
           clear HR0 HB0
           obtain⟨c,hc1,hc12,rfl,HR,HB⟩:=hrel
           by_cases hc:c < 12
           ·have hdc:decide ((c:Int)≤11)=true:=zDt (by omega)
            have hc0:(0:Int)≤(c:Int):=by omega
            have hcI:(c:Int) < 12:=by omega
            obtain⟨b,g1,g2⟩:=HBD.out.get hc1 hc
            have k1:=zP HB.out g1
            have k2:=zP HB.out (g2 i hi)
            have HFE:=zN (flsE_succ F i c)
            obtain⟨fb,hfb⟩:∃ fb,fb=F c i:=⟨_,rfl⟩
            rw[←hfb] at k2 HFE
            clear g1 g2 hfb
            cases fb with
            |false=>
             have HF:Hid (flsE F i (c+1)=flsE F i c):=zN (by rw[HFE.out];simp)
             go_wp2
             go_roundw
             case rel=>exact⟨c+1,by omega,by omega,by go_num,by rw[HF.out];exact HR,HB⟩
             case measure=>simp[intOf]<;>omega
            |true=>
             have HF:Hid (flsA F i ++ flsE F i (c+1)=(flsA F i ++ flsE F i c) ++ [((i:Int),(c:Int))]):=zN (by rw[HFE.out,zDt hc1];simp)
             have hFl:(flsA F i ++ flsE F i c).length≤2000000:=by
              have h1:=flsA_len F i
              have h2:=flsE_len F i c
              rw[List.length_append]
              omega
             have hown:=HR.out
             obtain⟨T,hT⟩:∃ T,T=flsA F i ++ flsE F i c:=⟨_,rfl⟩
             rw[←hT] at hown hFl HF
             obtain⟨p8,c8,rfl,hc8⟩:=own_slice hown
             have hs6:=HB.out.size
             clear hT
             go_wp2_with (refine RX.wpl_app (by rfl) elFlag _ _ (by rfl) W6.heap.size _ _ _ (World.ownsRow.alloc hown _) (by rfl) wr.heap.size _ 1 (by rfl) (heap_alloc_new _ _) (by rfl) (by simp[Value.oneCell']) (by omega) (by omega) (by simp;omega) ?_;intro vq w14 hown14 hb14 hg14 hat14;clear hat14 hg14)
             have f4:Hid (Below W6.heap.size W6 w14):=zN (HB.out.trans (((zBr _ _).alloc hs6 _).trans hb14))
             have f1:Hid (FlOwn w14 W6.heap.size vq (T ++ [((i:Int),(c:Int))])):=zN (FlOwn.snoc hown14)
             clear hown14 hb14 hown
             go_wp2
             go_roundw
             case rel=>exact⟨c+1,by omega,by omega,by go_num,by rw[HF.out];exact f1,f4⟩
             case measure=>simp[intOf]<;>omega
           ·have hdc:decide ((c:Int)≤11)=false:=zDf (by omega)
            obtain rfl:c=12:=by omega
            have HF:=zN (flsA_succ F i)
            go_wp2
            go_roundw
            case rel=>exact⟨i+1,by omega,by go_num,by rw[HF.out];exact HR,HB⟩
            case measure=>simp[intOf]<;>omega
         ·have hdi:decide ((i:Int) < (m:Int))=false:=zDf (by omega)
          obtain rfl:i=m:=by omega
          obtain⟨p17,c17,rfl,_⟩:=own_slice HR.out
          have HFA:=zN (HR.out.at)
          have HFB:=zN (HB6.out.trans (HB.out.mono HB6.out.size))
          clear HR HB
          go_wp2
          go_ret2
          exact⟨_,rfl,HFB.out,by rw[←HFS.out];exact HFA.out⟩
end Go.Proofs.YtednaajanciabaaGreatDoor
