import Derived.Test.YtojkamfabapcoaaGreatDoorKCSys
import Derived.Test.YtojkamfabapcoaaGreatDoorKRVec
set_option maxRecDepth 100000
set_option maxHeartbeats 8000000
set_option linter.unusedSimpArgs false
set_option linter.unusedVariables false
namespace Go.Proofs.YtojkamfabapcoaaGreatDoor
open Go.RowKit Go.Grid
theorem rcrow_any (r:Rw) (q:Option Addr) (cap:Nat) (target nodes:Int) (w:World) (hS:ShIn w q r.sh) (hc:r.sh.length≤cap) (hl:r.sh.length≤9223372036854775807) (hn:1≤nodes∧nodes≤1000) :
  Calls Tryz.prog 59 #[.agg #[.slice q r.sh.length cap,.int .i64 r.value,.int .i64 r.weight,.int .i64 r.report],.int .i64 target,.int .i64 nodes] w fun e w'=>e=.returned (.int .i64 (rowErr nodes r target))∧Below w.heap.size w w':=by
 obtain⟨S,hSe⟩:∃ S,S=r.sh:=⟨_,rfl⟩
 have HE:Hid ((¬ AscA S→rowErr nodes r target=8)∧(AscA S→¬ RowOk nodes r target→rowErr nodes r target=1)∧(AscA S→RowOk nodes r target→rowErr nodes r target=0)):=zN (by rw[hSe];exact⟨rowErr_order,rowErr_range,rowErr_ok⟩)
 have HOK:Hid (RowOk nodes r target↔(∀ c∈S,ShOk nodes c)∧sumI S=840∧(1≤r.weight∧r.weight≤100)∧-4294967296≤target∧target≤4294967296):=zN (by rw[hSe];exact Iff.rfl)
 rw[←hSe] at hS hc hl ⊢
 obtain⟨E,hE⟩:∃ E,E=rowErr nodes r target:=⟨_,rfl⟩
 rw[←hE] at HE ⊢
 have HS:=zN hS
 clear hSe hE hS
 go_enter Tryz.func59,Tryz.ntmps59
 go_wp2
 refine absW (F:=fun w'=>w'.cell? ⟨w.heap.size,0,none⟩=some (.slice q S.length cap)∧w'.cell? ⟨w.heap.size,2,none⟩=some (.int .i64 r.weight)∧Below w.heap.size w w') ⟨(by simp[zO,zJ,zQ]),(by simp[zO,zJ,zQ]),(by repeat (first|(with_reducible first|assumption|exact zBr _ _|refine zBs ?_ (by first|omega|(simp<;>omega)) _|refine zBa ?_ (by first|omega|(simp<;>omega)) _|apply zBd)|assumption))⟩ ?_
 rintro W1 ⟨c0,c2,hb1⟩
 have HS1:=zN (HS.out.below hb1)
 have HB1:=zN hb1
 have hs1:w.heap.size < W1.heap.size:=zM _ _ c0
 clear hb1 HS
 go_loopw [7] (fun i wr=>∃ k:Nat,1≤k∧(k≤S.length∨k=1)∧i=.int .i64 k∧Hid (∀ j (h:j+1 < S.length),j+1 < k→S[j].1 < S[j+1].1)∧Below W1.heap.size W1 wr) (fun i _=>S.length-(intOf i).toNat)
 case atStart=>exact⟨1,Nat.le_refl _,.inr rfl,rfl,zN (fun j h hj=>by omega),zBr _ _⟩
 case round=>
  obtain⟨k,hk1,hk,rfl,HK,hb⟩:=hrel
  have c0r:=zP hb c0
  by_cases hlt:k < S.length
  ·have hdk:decide ((k:Int) < (S.length:Int))=true:=zDt (by omega)
   obtain⟨b,o,rfl,hbl,hcell⟩:=HS1.out.get (by omega)
   have d1:=(hcell k hlt).1
   have d0:=(hcell (k-1) (by omega)).1
   have HN:Hid ((S[k-1]'(by omega)).1 < S[k].1→∀ j (h:j+1 < S.length),j+1 < k+1→S[j].1 < S[j+1].1):=zN (fun h j hj hjk=>by
    by_cases e:j+1=k
    ·subst e;exact h
    ·exact HK.out j hj (by omega))
   have HNO:Hid (¬ (S[k-1]'(by omega)).1 < S[k].1→¬ AscA S):=zN (fun h ha=>h (by
    have:=ha (k-1) (by omega)
    rwa[show (S[k-1+1]'(by omega))=S[k] by congr 1;omega] at this))
   obtain⟨x,hx⟩:∃ x,x=S[k].1:=⟨_,rfl⟩
   obtain⟨y,hy⟩:∃ y,y=(S[k-1]'(by omega)).1:=⟨_,rfl⟩
   rw[←hx] at d1 HN HNO
   rw[←hy] at d0 HN HNO
   replace d0:=zP hb d0
   replace d1:=zP hb d1
   have hk1':(k:Int)-1=((k-1:Nat):Int):=by omega
   obtain⟨kk,hkk⟩:∃ kk,kk=k-1:=⟨_,rfl⟩
   rw[←hkk] at d0 hk1'
   have hkk0:(0:Int)≤(kk:Int):=by omega
   have hkkI:(kk:Int) < (S.length:Int):=by omega
   have hk0:(0:Int)≤(k:Int):=by omega
   have hkI:(k:Int) < (S.length:Int):=by omega
   have HB:=zN hb
   clear hkk hx hy hcell hb
   by_cases hxy:y < x
   ·have hd:decide (x≤y)=false:=zDf (by omega)
    have HK2:=zN (HN.out hxy)
    clear HN HNO hxy
    go_wp2
    refine RX.region RX.fL (fun w'=>w'=_) (by kernel_rfl) (by kernel_rfl) rfl (fun OPS HO QR hQR=>?_)
    repeat (refine zeX (fun R hR=>?_);(first|refine zaX (by first|rfl|(rw[HO.out];rfl)) (by simp only[zA,zB,zC,zD];rfl) ?_|refine zbX (by first|rfl|(rw[HO.out];rfl)) rfl (by first|exact .inl rfl|exact .inr rfl) (by simp only[zE,zF,zG,zH];rfl) (by simp only[zA,zB,zC,zD];rfl) ?_|refine zcX (by first|rfl|(rw[HO.out];rfl)) rfl rfl (by simp only[zE,zF,zG,zH];rfl) (by simp only[zA,zB,zC,zD];rfl) ?_|(refine zdX (by first|rfl|(rw[HO.out];rfl)) rfl rfl rfl ?_;apply zEx;apply zEx;refine⟨fun w' hS K hK=>?_,?_,?_⟩;(focus (subst hS;go_wp2;exact hK _ _ (by simp only[zl,zG,zH];first|exact zf (by omega)|exact zg (by omega)|exact zh (by omega)|exact zi (by omega)|exact zj (by omega)|exact zk (by omega)|exact RX.bneB _|rfl) rfl));(focus (simp only[zA,zB,zC,zD];rfl))));refine hR _ _ ?_;clear hR R)
    refine RX.wpL_nil (hQR _ _ rfl ?_);clear hQR QR HO OPS
    go_wp2
    go_roundw
    case rel=>exact⟨k+1,by omega,.inl (by omega),by go_num,HK2,HB.out.drew⟩
    case measure=>simp[intOf];omega
   ·have hd:decide (x≤y)=true:=zDt (by omega)
    have HF:=zN (HE.out.1 (HNO.out hxy))
    clear HN HNO hxy
    go_wp2
    refine RX.region RX.fL (fun w'=>w'=_) (by kernel_rfl) (by kernel_rfl) rfl (fun OPS HO QR hQR=>?_)
    repeat (refine zeX (fun R hR=>?_);(first|refine zaX (by first|rfl|(rw[HO.out];rfl)) (by simp only[zA,zB,zC,zD];rfl) ?_|refine zbX (by first|rfl|(rw[HO.out];rfl)) rfl (by first|exact .inl rfl|exact .inr rfl) (by simp only[zE,zF,zG,zH];rfl) (by simp only[zA,zB,zC,zD];rfl) ?_|refine zcX (by first|rfl|(rw[HO.out];rfl)) rfl rfl (by simp only[zE,zF,zG,zH];rfl) (by simp only[zA,zB,zC,zD];rfl) ?_|(refine zdX (by first|rfl|(rw[HO.out];rfl)) rfl rfl rfl ?_;apply zEx;apply zEx;refine⟨fun w' hS K hK=>?_,?_,?_⟩;(focus (subst hS;go_wp2;exact hK _ _ (by simp only[zl,zG,zH];first|exact zf (by omega)|exact zg (by omega)|exact zh (by omega)|exact zi (by omega)|exact zj (by omega)|exact zk (by omega)|exact RX.bneB _|rfl) rfl));(focus (simp only[zA,zB,zC,zD];rfl))));refine hR _ _ ?_;clear hR R)
    refine RX.wpL_nil (hQR _ _ rfl ?_);clear hQR QR HO OPS
    go_wp2
    go_ret
    exact⟨by rw[HF.out]<;>rfl,HB1.out.trans (HB.out.drew.mono HB1.out.size)⟩
  ·have hdk:decide ((k:Int) < (S.length:Int))=false:=zDf (by omega)
   have HASC:Hid (AscA S):=zN (fun j hj=>HK.out j hj (by omega))
   have HB:=zN hb
   clear hb
   go_wp2
   go_loopw [8,9] (fun s i wx=>∃ t:Nat,t≤S.length∧i=.int .i64 t∧s=.int .i64 (sumI (S.take t))∧Hid (∀ j (h:j < S.length),j < t→ShOk nodes S[j])∧Below W1.heap.size W1 wx) (fun _ i _=>S.length-(intOf i).toNat)
   case atStart=>exact⟨0,Nat.zero_le _,rfl,rfl,zN (fun j h hj=>by omega),HB.out⟩
   case round=>
    clear c0r
    obtain⟨t,ht,rfl,rfl,HT,hb⟩:=hrel
    have c0r:=zP hb c0
    have c2r:=zP hb c2
    by_cases hlt2:t < S.length
    ·have hdt:decide ((t:Int) < (S.length:Int))=true:=zDt (by omega)
     obtain⟨b,o,rfl,hbl,hcell⟩:=HS1.out.get (by omega)
     obtain⟨d0,d1⟩:=hcell t hlt2
     replace d0:=zP hb d0
     replace d1:=zP hb d1
     have hbd:=sumI_bd (nodes:=nodes) t ht HT.out
     have HSU:=zN (sumI_take hlt2)
     have HN:Hid (ShOk nodes S[t]→∀ j (h:j < S.length),j < t+1→ShOk nodes S[j]):=zN (fun h j hj hjt=>by
      by_cases e:j=t
      ·subst e;exact h
      ·exact HT.out j hj (by omega))
     have HNO:Hid (¬ ShOk nodes S[t]→E=1):=zN (fun h=>HE.out.2.1 HASC.out (fun ho=>h ((HOK.out.1 ho).1 _ (List.getElem_mem _))))
     have HLE:Hid (ShOk nodes S[t]→(t:Int) < nodes):=zN (fun h=>asc_le HASC.out hlt2 (fun j hj hjt=>HN.out h j hj (by omega)))
     obtain⟨x,hx⟩:∃ x,x=S[t]:=⟨_,rfl⟩
     rw[←hx] at d0 d1 HSU HN HNO HLE
     obtain⟨x0,x1⟩:=x
     dsimp only at d0 d1 HSU
     obtain⟨sm,hsm⟩:∃ sm,sm=sumI (S.take t):=⟨_,rfl⟩
     rw[←hsm] at hbd HSU
     rw[←hsm]
     have ht0:(0:Int)≤(t:Int):=by omega
     have htI:(t:Int) < (S.length:Int):=by omega
     have hbn:b < wr.heap.size:=by have:=hb.size;omega
     have hbne:¬ (b=wr.heap.size):=by omega
     have HB2:=zN (hb.alloc hb.size (.cells #[.int .i64 x0,.int .i64 x1] 90))
     have HBw:Hid (Below w.heap.size w (wr.alloc (.cells #[.int .i64 x0,.int .i64 x1] 90))):=zN (HB1.out.trans (HB2.out.mono HB1.out.size))
     clear hx hsm hcell hb
     by_cases h0:x0 < 0
     ·have HF:=zN (HNO.out (fun h=>by have h9:0≤x0∧x0 < nodes:=h.1;omega))
      clear HN HNO HLE
      go_wp2
      go_ret
      exact⟨by rw[HF.out]<;>rfl,HBw.out⟩
     ·by_cases h1:nodes≤x0
      ·have HF:=zN (HNO.out (fun h=>by have h9:0≤x0∧x0 < nodes:=h.1;omega))
       clear HN HNO HLE
       go_wp2
       go_ret
       exact⟨by rw[HF.out]<;>rfl,HBw.out⟩
      ·by_cases h2:x1 < 1
       ·have HF:=zN (HNO.out (fun h=>by have h9:1≤x1∧x1≤840:=h.2;omega))
        clear HN HNO HLE
        go_wp2
        go_ret
        exact⟨by rw[HF.out]<;>rfl,HBw.out⟩
       ·by_cases h3:840 < x1
        ·have HF:=zN (HNO.out (fun h=>by have h9:1≤x1∧x1≤840:=h.2;omega))
         clear HN HNO HLE
         go_wp2
         go_ret
         exact⟨by rw[HF.out]<;>rfl,HBw.out⟩
        ·have hok:ShOk nodes (x0,x1):=⟨by show 0≤x0∧x0 < nodes;omega,by show 1≤x1∧x1≤840;omega⟩
         have htn:=HLE.out hok
         have HN2:=zN (HN.out hok)
         clear HN HNO HLE hok
         go_wp2
         go_roundw
         case rel=>exact⟨t+1,by omega,by go_num,by rw[HSU.out],HN2,HB2.out⟩
         case measure=>simp[intOf];omega
    ·have hdt:decide ((t:Int) < (S.length:Int))=false:=zDf (by omega)
     have htS:t=S.length:=by omega
     have es:sumI (S.take t)=sumI S:=by rw[htS,List.take_length]
     have HALL:Hid (∀ c∈S,ShOk nodes c):=zN (fun c hc=>by
      obtain⟨j,hj,rfl⟩:=List.getElem_of_mem hc
      exact HT.out j hj (by omega))
     have HBw:Hid (Below w.heap.size w wr):=zN (HB1.out.trans (hb.mono HB1.out.size))
     rw[es]
     have HSS:Hid ((sumI S=840→(1≤r.weight∧r.weight≤100)→(-4294967296≤target∧target≤4294967296)→E=0)∧(¬ (sumI S=840∧(1≤r.weight∧r.weight≤100)∧-4294967296≤target∧target≤4294967296)→E=1)):=zN ⟨fun a b c=>HE.out.2.2 HASC.out (HOK.out.2 ⟨HALL.out,a,b,c⟩),fun h=>HE.out.2.1 HASC.out (fun ho=>h (HOK.out.1 ho).2)⟩
     obtain⟨sm,hsm⟩:∃ sm,sm=sumI S:=⟨_,rfl⟩
     rw[←hsm] at HSS
     rw[←hsm]
     clear hsm es htS hb HE HOK
     have hno:¬ (sm=840∧(1≤r.weight∧r.weight≤100)∧-4294967296≤target∧target≤4294967296)→Hid (E=1):=fun h=>zN (HSS.out.2 h)
     by_cases h1:sm=840
     ·have hb1:(sm != 840)=false:=by rw[bne_eq_false_iff_eq];exact h1
      by_cases h2:r.weight < 1
      ·have HF:=hno (by omega)
       clear HSS h1 hno
       go_wp2
       go_ret
       exact⟨by rw[HF.out]<;>rfl,HBw.out⟩
      ·by_cases h3:100 < r.weight
       ·have HF:=hno (by omega)
        clear HSS h1 hno
        go_wp2
        go_ret
        exact⟨by rw[HF.out]<;>rfl,HBw.out⟩
       ·by_cases h4:target < -4294967296
        ·have HF:=hno (by omega)
         clear HSS h1 hno
         go_wp2
         go_ret
         exact⟨by rw[HF.out]<;>rfl,HBw.out⟩
        ·by_cases h5:4294967296 < target
         ·have HF:=hno (by omega)
          clear HSS h1 hno
          go_wp2
          go_ret
          exact⟨by rw[HF.out]<;>rfl,HBw.out⟩
         ·have HF:=zN (HSS.out.1 h1 (by omega) (by omega))
          clear HSS h1 hno
          go_wp2
          go_ret
          exact⟨by rw[HF.out]<;>rfl,HBw.out⟩
     ·have hb1:(sm != 840)=true:=by rw[bne_iff_ne];exact h1
      have HF:=hno (fun h=>h1 h.1)
      clear HSS hno
      go_wp2
      go_ret
      exact⟨by rw[HF.out]<;>rfl,HBw.out⟩
theorem rccheck_any (S:Sy) (v:Value) (w:World) (hS:SysIn w v S) (hl:SyLen S) :
  Calls Tryz.prog 13 #[v] w fun e w'=>e=.returned (.int .i64 (sysErr S))∧Below w.heap.size w w':=by
 obtain⟨p1,d1,p2,d2,rfl,hd1,hd2,hR,hT⟩:=hS
 obtain⟨hl1,hl2,hl3⟩:=hl
 obtain⟨E,hE⟩:∃ E,E=sysErr S:=⟨_,rfl⟩
 have HE:Hid ((¬ PrOk S.f S.s S.a→E=1)∧(PrOk S.f S.s S.a→200 < S.rows.length→E=2)∧(PrOk S.f S.s S.a→¬ 200 < S.rows.length→S.targets.length≠S.rows.length→E=1)∧(PrOk S.f S.s S.a→¬ 200 < S.rows.length→S.targets.length=S.rows.length→E=rowsErr (10*S.f*S.f+2) S.rows S.targets)):=
  zN (by rw[hE];exact⟨sysErr_pr,sysErr_many,sysErr_len,sysErr_rows⟩)
 rw[←hE]
 clear hE
 obtain⟨f,s,a,R,T⟩:=S
 dsimp only at *
 have HR:=zN hR
 have HT:=zN hT
 have HL3:=zN hl3
 clear hR hT hl3
 go_enter Tryz.func13,Tryz.ntmps13
 go_wp2_with fail
 refine (rpcheck_any f s a _).mono ?_
 rintro e w1 ⟨rfl,hb1⟩
 have hB:Below w.heap.size w w1:=Below.trans (by repeat (first|(with_reducible first|assumption|exact zBr _ _|refine zBs ?_ (by first|omega|(simp<;>omega)) _|refine zBa ?_ (by first|omega|(simp<;>omega)) _|apply zBd)|assumption)) (hb1.mono (by simp))
 have c0:w1.cell? ⟨w.heap.size,0,none⟩=some (.int .i64 f):=zP hb1 (by simp[zO,zJ,zQ])
 have c3:w1.cell? ⟨w.heap.size,3,none⟩=some (.slice p1 R.length d1):=zP hb1 (by simp[zO,zJ,zQ])
 have c4:w1.cell? ⟨w.heap.size,4,none⟩=some (.slice p2 T.length d2):=zP hb1 (by simp[zO,zJ,zQ])
 have HB:=zN hB
 clear hb1 hB
 by_cases hP:PrOk f s a
 ·have hE0:prErr f s a=0:=if_pos hP
  rw[hE0]
  by_cases hm:200 < R.length
  ·have hdm:decide ((200:Int) < (R.length:Int))=true:=zDt (by omega)
   have HF:=zN (HE.out.2.1 hP hm)
   clear hE0
   go_wp2
   go_ret
   exact⟨by rw[HF.out]<;>rfl,HB.out⟩
  ·have hdm:decide ((200:Int) < (R.length:Int))=false:=zDf (by omega)
   by_cases hle:T.length=R.length
   ·have hbe:((T.length:Int) != (R.length:Int))=false:=by simp[hle]
    obtain⟨hcn,hn1,hn2⟩:=prOk_nodes hP
    have HF:=zN (HE.out.2.2.2 hP hm hle)
    obtain⟨N,hN⟩:∃ N,N=10*f*f+2:=⟨_,rfl⟩
    rw[←hN] at hcn hn1 hn2 HF
    have HN:=zN hN
    have HPf:Hid (1≤f∧f≤8):=zN ⟨hP.1,hP.2.1⟩
    clear hE0 hN HE hcn
    go_wp2
    have m4:=c4
    have m3:=c3
    have m0:=c0
    have hsz:w.heap.size < w1.heap.size:=zM _ _ m4
    have HB2:=HB
    clear c0 c3 c4
    go_loopw [4] (fun i wr=>∃ k:Nat,k≤R.length∧i=.int .i64 k∧Hid (∀ i (h1:i < R.length) (h2:i < T.length),i < k→rowErr N R[i] T[i]=0)∧Below w1.heap.size w1 wr) (fun i _=>R.length-(intOf i).toNat)
    case atStart=>exact⟨0,Nat.zero_le _,rfl,zN (fun i h1 h2 hk=>by omega),zBr _ _⟩
    case round=>
     obtain⟨k,hk,rfl,HK,hb⟩:=hrel
     have m4r:=zP hb m4
     have m3r:=zP hb m3
     have m0r:=zP hb m0
     by_cases hlt:k < R.length
     ·have hdk:decide ((k:Int) < (R.length:Int))=true:=zDt (by omega)
      have hltT:k < T.length:=by omega
      have hbw:Below w.heap.size w wr:=HB2.out.trans (hb.mono HB2.out.size)
      obtain⟨bR,oR,rfl,hbR,hcR⟩:=(HR.out.below hbw).get (by omega)
      obtain⟨bT,oT,rfl,hbT,hcT⟩:=(HT.out.below hbw).cell (by omega)
      obtain⟨q,cap,g0,gcap,gsh,g1,g2,g3⟩:=hcR k hlt
      have tk:=hcT k hltT
      have hrl:=HL3.out R[k] (List.getElem_mem _)
      have HROW:Hid ((rowErr N R[k] T[k]=0→∀ i (h1:i < R.length) (h2:i < T.length),i < k+1→rowErr N R[i] T[i]=0)∧(rowErr N R[k] T[k]≠0→rowsErr N R T=rowErr N R[k] T[k])):=zN ⟨fun h i h1 h2 hi=>by
       by_cases e:i=k
       ·subst e;exact h
       ·exact HK.out i h1 h2 (by omega),fun h=>rowsErr_first hlt hltT HK.out h⟩
      obtain⟨r,hr⟩:∃ r,r=R[k]:=⟨_,rfl⟩
      obtain⟨t,ht⟩:∃ t,t=T[k]:=⟨_,rfl⟩
      rw[←hr] at g0 gcap gsh g1 g2 g3 hrl HROW
      rw[←ht] at tk HROW
      obtain⟨x,hx⟩:∃ x,x=rowErr N r t:=⟨_,rfl⟩
      rw[←hx] at HROW
      have HX:=zN hx
      have HG:=zN gsh
      have hkL:(k:Int) < (T.length:Int):=by omega
      have hwr:w.heap.size≠wr.heap.size:=by have:=hb.size;omega
      have hTr:bT≠wr.heap.size:=by omega
      have hk0:(0:Int)≤(k:Int):=by omega
      have HBr:=zN hb
      have HBw:=zN hbw
      clear hr ht hx gsh hcR hcT HK hb hbw
      have hkR:(k:Int) < (R.length:Int):=by omega
      go_wp2
      refine absW (F:=fun w'=>w'.cell? ⟨bR,oR+k*4,none⟩=some (.slice q r.sh.length cap)∧w'.cell? ⟨bR,oR+k*4+1,none⟩=some (.int .i64 r.value)∧w'.cell? ⟨bR,oR+k*4+2,none⟩=some (.int .i64 r.weight)∧w'.cell? ⟨bR,oR+k*4+3,none⟩=some (.int .i64 r.report)∧w'.cell? ⟨w.heap.size,4,none⟩=some (.slice (some ⟨bT,oT,none⟩) T.length d2)∧w'.cell? ⟨bT,oT+k,none⟩=some (.int .i64 t)∧w'.cell? ⟨w.heap.size,3,none⟩=some (.slice (some ⟨bR,oR,none⟩) R.length d1)∧w'.cell? ⟨w.heap.size,0,none⟩=some (.int .i64 f)∧Below wr.heap.size wr w') (by
       have hq:Below wr.heap.size wr _:=(by repeat (first|(with_reducible first|assumption|exact zBr _ _|refine zBs ?_ (by first|omega|(simp<;>omega)) _|refine zBa ?_ (by first|omega|(simp<;>omega)) _|apply zBd)|assumption))
       exact⟨zP hq g0,zP hq g1,zP hq g2,zP hq g3,zP hq m4r,zP hq tk,zP hq m3r,zP hq m0r,hq⟩) ?_
      rintro W5 ⟨a0,a1,a2,a3,a4,a5,a6,a7,hb5⟩
      have HB5:=zN hb5
      clear hb5 g0 g1 g2 g3 tk m4r m3r m0r
      refine RX.region RX.fN (fun w'=>w'.cell? ⟨bR,oR+k*4,none⟩=some (.slice q r.sh.length cap)∧w'.cell? ⟨bR,oR+k*4+1,none⟩=some (.int .i64 r.value)∧w'.cell? ⟨bR,oR+k*4+2,none⟩=some (.int .i64 r.weight)∧w'.cell? ⟨bR,oR+k*4+3,none⟩=some (.int .i64 r.report)∧w'.cell? ⟨w.heap.size,4,none⟩=some (.slice (some ⟨bT,oT,none⟩) T.length d2)∧w'.cell? ⟨bT,oT+k,none⟩=some (.int .i64 t)∧w'.cell? ⟨w.heap.size,3,none⟩=some (.slice (some ⟨bR,oR,none⟩) R.length d1)∧w'.cell? ⟨w.heap.size,0,none⟩=some (.int .i64 f)) (by kernel_rfl) (by kernel_rfl) (⟨a0,a1,a2,a3,a4,a5,a6,a7⟩) (fun OPS HO QR hQR=>?_)
      repeat (refine zeX (fun R hR=>?_);(first|refine zaX (by first|rfl|(rw[HO.out];rfl)) (by simp only[zA,zB,zC,zD];rfl) ?_|refine zbX (by first|rfl|(rw[HO.out];rfl)) rfl (by first|exact .inl rfl|exact .inr rfl) (by simp only[zE,zF,zG,zH];rfl) (by simp only[zA,zB,zC,zD];rfl) ?_|refine zcX (by first|rfl|(rw[HO.out];rfl)) rfl rfl (by simp only[zE,zF,zG,zH];rfl) (by simp only[zA,zB,zC,zD];rfl) ?_|(refine zdX (by first|rfl|(rw[HO.out];rfl)) rfl rfl rfl ?_;apply zEx;apply zEx;refine⟨fun w' hS K hK=>?_,?_,?_⟩;(focus (obtain⟨hS1,hS2,hS3,hS4,hS5,hS6,hS7,hS8⟩:=hS;go_wp2;exact hK _ _ (by simp only[zl,zG,zH];first|exact zf (by omega)|exact zg (by omega)|exact zh (by omega)|exact zi (by omega)|exact zj (by omega)|exact zk (by omega)|exact RX.bneB _|rfl) rfl));(focus (simp only[zA,zB,zC,zD];rfl))));refine hR _ _ ?_;clear hR R)
      refine zeX (fun R hR=>?_)
      refine zgX (by first|rfl|(rw[HO.out];rfl)) rfl (fun K hK=>?_)
      go_wp2_with fail
      refine (rnn_any f HPf.out.1 HPf.out.2 _).mono ?_
      rintro e w6 ⟨rfl,rfl⟩
      rw[←HN.out]
      refine hK _ _ ⟨⟨(by (try have hLt:=zM _ _ a0);(try simp only at hLt);(repeat first|rw[zO]|rw[zK _ _ _ _ (by first|(simp<;>omega)|omega)]|rw[zJ,if_neg (by first|(simp<;>omega)|omega)]);first|exact a0|(rw[zJ,if_pos (by first|(simp;done)|omega)];exact a0)),(by (try have hLt:=zM _ _ a1);(try simp only at hLt);(repeat first|rw[zO]|rw[zK _ _ _ _ (by first|(simp<;>omega)|omega)]|rw[zJ,if_neg (by first|(simp<;>omega)|omega)]);first|exact a1|(rw[zJ,if_pos (by first|(simp;done)|omega)];exact a1)),(by (try have hLt:=zM _ _ a2);(try simp only at hLt);(repeat first|rw[zO]|rw[zK _ _ _ _ (by first|(simp<;>omega)|omega)]|rw[zJ,if_neg (by first|(simp<;>omega)|omega)]);first|exact a2|(rw[zJ,if_pos (by first|(simp;done)|omega)];exact a2)),(by (try have hLt:=zM _ _ a3);(try simp only at hLt);(repeat first|rw[zO]|rw[zK _ _ _ _ (by first|(simp<;>omega)|omega)]|rw[zJ,if_neg (by first|(simp<;>omega)|omega)]);first|exact a3|(rw[zJ,if_pos (by first|(simp;done)|omega)];exact a3)),(by (try have hLt:=zM _ _ a4);(try simp only at hLt);(repeat first|rw[zO]|rw[zK _ _ _ _ (by first|(simp<;>omega)|omega)]|rw[zJ,if_neg (by first|(simp<;>omega)|omega)]);first|exact a4|(rw[zJ,if_pos (by first|(simp;done)|omega)];exact a4)),(by (try have hLt:=zM _ _ a5);(try simp only at hLt);(repeat first|rw[zO]|rw[zK _ _ _ _ (by first|(simp<;>omega)|omega)]|rw[zJ,if_neg (by first|(simp<;>omega)|omega)]);first|exact a5|(rw[zJ,if_pos (by first|(simp;done)|omega)];exact a5)),(by (try have hLt:=zM _ _ a6);(try simp only at hLt);(repeat first|rw[zO]|rw[zK _ _ _ _ (by first|(simp<;>omega)|omega)]|rw[zJ,if_neg (by first|(simp<;>omega)|omega)]);first|exact a6|(rw[zJ,if_pos (by first|(simp;done)|omega)];exact a6)),(by (try have hLt:=zM _ _ a7);(try simp only at hLt);(repeat first|rw[zO]|rw[zK _ _ _ _ (by first|(simp<;>omega)|omega)]|rw[zJ,if_neg (by first|(simp<;>omega)|omega)]);first|exact a7|(rw[zJ,if_pos (by first|(simp;done)|omega)];exact a7))⟩,hR _ _ ?_⟩;clear hK K hR R
      repeat (refine zeX (fun R hR=>?_);(first|refine zaX (by first|rfl|(rw[HO.out];rfl)) (by simp only[zA,zB,zC,zD];rfl) ?_|refine zbX (by first|rfl|(rw[HO.out];rfl)) rfl (by first|exact .inl rfl|exact .inr rfl) (by simp only[zE,zF,zG,zH];rfl) (by simp only[zA,zB,zC,zD];rfl) ?_|refine zcX (by first|rfl|(rw[HO.out];rfl)) rfl rfl (by simp only[zE,zF,zG,zH];rfl) (by simp only[zA,zB,zC,zD];rfl) ?_|(refine zdX (by first|rfl|(rw[HO.out];rfl)) rfl rfl rfl ?_;apply zEx;apply zEx;refine⟨fun w' hS K hK=>?_,?_,?_⟩;(focus (obtain⟨hS1,hS2,hS3,hS4,hS5,hS6,hS7,hS8⟩:=hS;go_wp2;exact hK _ _ (by simp only[zl,zG,zH];first|exact zf (by omega)|exact zg (by omega)|exact zh (by omega)|exact zi (by omega)|exact zj (by omega)|exact zk (by omega)|exact RX.bneB _|rfl) rfl));(focus (simp only[zA,zB,zC,zD];rfl))));refine hR _ _ ?_;clear hR R)
      refine zeX (fun R hR=>?_)
      refine zgX (by first|rfl|(rw[HO.out];rfl)) rfl (fun K hK=>?_)
      go_wp2_with fail
      refine (rcrow_any r q cap t N _ ?_ gcap hrl ⟨hn1,hn2⟩).mono ?_
      ·exact (HG.out.below HB5.out).below (by repeat (first|(with_reducible first|assumption|exact zBr _ _|refine zBs ?_ (by first|omega|(simp<;>omega)) _|refine zBa ?_ (by first|omega|(simp<;>omega)) _|apply zBd)|assumption))
      rintro e w6 ⟨rfl,hb6⟩
      replace hb6:Below W5.heap.size W5 w6:=⟨hb6.os,hb6.tape,hb6.output,hb6.size,hb6.block⟩
      have hb7:Below wr.heap.size wr w6:=HB5.out.trans (hb6.mono HB5.out.size)
      have z0:=zP hb6 a0
      have z1:=zP hb6 a1
      have z2:=zP hb6 a2
      have z3:=zP hb6 a3
      have z4:=zP hb6 a4
      have z5:=zP hb6 a5
      have z6:=zP hb6 a6
      have z7:=zP hb6 a7
      have HB7:=zN hb7
      rw[←HX.out]
      clear hb6 hb7 a0 a1 a2 a3 a4 a5 a6 a7
      refine hK _ _ ⟨⟨z0,z1,z2,z3,z4,z5,z6,z7⟩,hR _ _ ?_⟩;clear hK K hR R
      repeat (refine zeX (fun R hR=>?_);(first|refine zaX (by first|rfl|(rw[HO.out];rfl)) (by simp only[zA,zB,zC,zD];rfl) ?_|refine zbX (by first|rfl|(rw[HO.out];rfl)) rfl (by first|exact .inl rfl|exact .inr rfl) (by simp only[zE,zF,zG,zH];rfl) (by simp only[zA,zB,zC,zD];rfl) ?_|refine zcX (by first|rfl|(rw[HO.out];rfl)) rfl rfl (by simp only[zE,zF,zG,zH];rfl) (by simp only[zA,zB,zC,zD];rfl) ?_|(refine zdX (by first|rfl|(rw[HO.out];rfl)) rfl rfl rfl ?_;apply zEx;apply zEx;refine⟨fun w' hS K hK=>?_,?_,?_⟩;(focus (obtain⟨hS1,hS2,hS3,hS4,hS5,hS6,hS7,hS8⟩:=hS;go_wp2;exact hK _ _ (by simp only[zl,zG,zH];first|exact zf (by omega)|exact zg (by omega)|exact zh (by omega)|exact zi (by omega)|exact zj (by omega)|exact zk (by omega)|exact RX.bneB _|rfl) rfl));(focus (simp only[zA,zB,zC,zD];rfl))));refine hR _ _ ?_;clear hR R)
      refine RX.wpL_nil (hQR _ _ (⟨z0,z1,z2,z3,z4,z5,z6,z7⟩) ?_);clear hQR QR HO OPS
      clear z0 z1 z2 z3 z4 z5 z6 z7
      by_cases hx0:x=0
      ·have HK2:=zN (HROW.out.1 hx0)
       subst hx0
       go_wp2
       go_roundw
       case rel=>exact⟨k+1,by omega,by go_num,HK2,HBr.out.trans (HB7.out.mono HBr.out.size)⟩
       case measure=>simp[intOf];omega
      ·have hbx:(x != 0)=true:=by rw[bne_iff_ne];exact hx0
       have HF2:Hid (E=x):=zN (by rw[HF.out];exact HROW.out.2 hx0)
       go_wp2
       go_ret
       exact⟨by rw[HF2.out]<;>rfl,HBw.out.trans (HB7.out.mono HBw.out.size)⟩
     ·have hdk:decide ((k:Int) < (R.length:Int))=false:=zDf (by omega)
      have HF2:Hid (E=0):=zN (by rw[HF.out];exact rowsErr_all (fun i h1 h2=>HK.out i h1 h2 (by omega)))
      have HBw:=zN (HB2.out.trans (hb.mono HB2.out.size))
      go_wp2
      go_ret
      exact⟨by rw[HF2.out]<;>rfl,HBw.out⟩
   ·have hbe:((T.length:Int) != (R.length:Int))=true:=by rw[bne_iff_ne];omega
    have HF:=zN (HE.out.2.2.1 hP hm hle)
    clear hE0
    go_wp2
    go_ret
    exact⟨by rw[HF.out]<;>rfl,HB.out⟩
 ·have hE0:prErr f s a=1:=if_neg hP
  have HF:=zN (HE.out.1 hP)
  rw[hE0]
  clear hE0
  go_wp2
  go_ret
  exact⟨by rw[HF.out]<;>rfl,HB.out⟩
end Go.Proofs.YtojkamfabapcoaaGreatDoor
