import Derived.Test.YtednaajanciabaaGreatDoorLocate
set_option maxRecDepth 100000
set_option maxHeartbeats 8000000
set_option linter.unusedSimpArgs false
set_option linter.unusedVariables false
namespace Go.Proofs.YtednaajanciabaaGreatDoor
open Go.RowKit Go.Sort Go.Shelf Go.Grid
theorem moreShare (x y:Nat × Nat) (w:World) (hx:x.2≤1000) (hy:y.2≤1000):Calls Tryz.prog 93 #[.agg #[.int .i64 (x.1:Int),.int .i64 (x.2:Int)],.agg #[.int .i64 (y.1:Int),.int .i64 (y.2:Int)]] w fun e w'=>e=.returned (.int .i64 ((y.2:Int)-(x.2:Int)))∧Below w.heap.size w w':=by
 obtain⟨x0,x1⟩:=x
 obtain⟨y0,y1⟩:=y
 dsimp only at *
 go_enter Tryz.func93,Tryz.ntmps93
 go_wp2
 go_ret
 exact⟨rfl,(by repeat (first|(with_reducible first|assumption|exact zBr _ _|refine zBs ?_ (by first|omega|(simp<;>omega)) _|refine zBa ?_ (by first|omega|(simp<;>omega)) _|apply zBd)|assumption))⟩
theorem enters_more:∀ args w,(callFunc 93 args).run Tryz.prog w=.ok (.enter 93 args) w:=enters_of Tryz.func93 (by kernel_rfl) rfl
theorem minShares_any (w:World) (b:Nat) (S:List (Nat × Nat)) (cap:Nat) (h0:0 < S.length) (hS:∀ x∈S,x.2≤1000) (hat:SharesAt w b S) (hcap:S.length≤cap) (hcap':S.length≤1000) :
  Calls Tryz.prog 91 #[.slice (some ⟨b,0,none⟩) S.length cap,.func (.func 93) #[] #[]] w fun e w'=>e=.returned (.agg #[.int .i64 ((best S).1:Int),.int .i64 ((best S).2:Int)])∧Below w.heap.size w w':=by
 have eg:=enters_more
 have HAT:=zN hat
 have HS:=zN hS
 have hb0:=(hat 0 h0)
 rw[Nat.zero_mul,Nat.zero_add] at hb0
 obtain⟨d0,d1⟩:=hb0
 have hbl:b < w.heap.size:=zM _ _ d0
 have hbe:Hid (best S=bestL S.tail (S.headD (0,0))):=zN rfl
 obtain⟨s0,hs0⟩:∃ s,s=S[0]:=⟨_,rfl⟩
 rw[←hs0] at d0 d1
 have HB0:Hid (bestL (S.tail.take 0) (S.headD (0,0))=s0∧s0∈S):=zN (by
  rw[hs0];refine⟨?_,List.getElem_mem _⟩
  cases S with
  |nil=>simp at h0
  |cons a l=>rfl)
 clear hs0 hat hS
 obtain⟨a0,a1⟩:=s0
 dsimp only at d0 d1
 have hd1:decide ((S.length:Int) < 1)=false:=zDf (by omega)
 go_enter Tryz.func91,Tryz.ntmps91
 go_wp2
 go_loopw [6] (fun i wr=>∃ (k:Nat) (m:Nat × Nat),1≤k∧k≤S.length∧i=.int .i64 k∧Hid (bestL (S.tail.take (k-1)) (S.headD (0,0))=m∧m∈S)∧wr.cell? ⟨w.heap.size+1,0,none⟩=some (.int .i64 (m.1:Int))∧wr.cell? ⟨w.heap.size+1,1,none⟩=some (.int .i64 (m.2:Int))∧wr.frozen? ⟨w.heap.size+1,0,none⟩=false∧wr.frozen? ⟨w.heap.size+1,1,none⟩=false∧wr.frozen? ⟨w.heap.size,0,none⟩=false∧wr.frozen? ⟨w.heap.size,1,none⟩=false∧(∃ u,wr.cell? ⟨w.heap.size,0,none⟩=some u)∧(∃ u,wr.cell? ⟨w.heap.size,1,none⟩=some u)∧Below w.heap.size w wr) (fun i _=>S.length-(intOf i).toNat)
 case atStart=>exact⟨1,(a0,a1),by omega,by omega,rfl,HB0,(by simp[zO,zJ,zQ]),(by simp[zO,zJ,zQ]),by simp[RX.frozen_alloc],by simp[RX.frozen_alloc],by simp[RX.frozen_alloc],by simp[RX.frozen_alloc],⟨.int .i64 0,(by simp[zO,zJ,zQ])⟩,⟨.int .i64 0,(by simp[zO,zJ,zQ])⟩,(by repeat (first|(with_reducible first|assumption|exact zBr _ _|refine zBs ?_ (by first|omega|(simp<;>omega)) _|refine zBa ?_ (by first|omega|(simp<;>omega)) _|apply zBd)|assumption))⟩
 case round=>
  obtain⟨k,m,hk1,hk,rfl,HM,m0,m1,f0,f1,fa0,fa1,⟨ua,ca0⟩,⟨ub,ca1⟩,hb⟩:=hrel
  by_cases hlt:k < S.length
  ·have hdk:decide ((k:Int) < (S.length:Int))=true:=zDt (by omega)
   have ck:=HAT.out k hlt
   obtain⟨c0,c1⟩:=ck
   have HX:=zN (List.getElem_mem hlt)
   have HT:Hid (bestL (S.tail.take k) (S.headD (0,0))=if m.2 < S[k].2 then S[k] else m):=zN (by
    have hk':k-1 < S.tail.length:=by simp;omega
    have h:=bestL_take hk' (S.headD (0,0))
    rw[show k-1+1=k by omega,HM.out.1] at h
    rw[h]
    have:S.tail[k-1]=S[k]:=by rw[List.getElem_tail];congr 1;omega
    rw[this])
   obtain⟨x,hx⟩:∃ x,x=S[k]:=⟨_,rfl⟩
   rw[←hx] at c0 c1 HX HT
   clear hx
   have x2:=HS.out x HX.out
   have m2:=HS.out m HM.out.2
   obtain⟨x0,x1⟩:=x
   obtain⟨y0,y1⟩:=m
   dsimp only at c0 c1 m0 m1 x2 m2
   replace c0:=zP hb c0
   replace c1:=zP hb c1
   have hk0:(0:Int)≤(k:Int):=by omega
   have hkl:(k:Int) < (S.length:Int):=by omega
   have hwl:w.heap.size+1 < wr.heap.size:=zM _ _ m0
   go_wp2
   refine RY.region RX.fN (fun w'=>w'.cell? ⟨b,k*2,none⟩=some (.int .i64 (x0:Int))∧w'.cell? ⟨b,k*2+1,none⟩=some (.int .i64 (x1:Int))∧w'.cell? ⟨w.heap.size+1,0,none⟩=some (.int .i64 (y0:Int))∧w'.cell? ⟨w.heap.size+1,1,none⟩=some (.int .i64 (y1:Int))) (by kernel_rfl) (by kernel_rfl) (⟨c0,c1,m0,m1⟩) (fun OPS HO QR hQR=>?_)
   repeat (refine zeY (fun R hR=>?_);(first|refine zaY (by first|rfl|(rw[HO.out];rfl)) (by simp only[zA,zB,zC,zD];rfl) ?_|refine zbY (by first|rfl|(rw[HO.out];rfl)) rfl (by first|exact .inl rfl|exact .inr rfl) (by simp only[zE,zF,zG,zH];rfl) (by simp only[zA,zB,zC,zD];rfl) ?_|refine zcY (by first|rfl|(rw[HO.out];rfl)) rfl rfl (by simp only[zE,zF,zG,zH];rfl) (by simp only[zA,zB,zC,zD];rfl) ?_|(refine zdY (by first|rfl|(rw[HO.out];rfl)) rfl rfl rfl ?_;apply zEx;apply zEx;refine⟨fun w' hS K hK=>?_,?_,?_⟩;(focus (obtain⟨hS1,hS2,hS3,hS4⟩:=hS;go_wp2;exact hK _ _ (by simp only[zl,zG,zH];first|exact zf (by omega)|exact zg (by omega)|exact zh (by omega)|exact zi (by omega)|exact zj (by omega)|exact zk (by omega)|exact RX.bneB _|rfl) rfl));(focus (simp only[zA,zB,zC,zD];rfl))));refine hR _ _ ?_;clear hR R)
   refine zeY (fun R hR=>?_)
   refine zgY (by first|rfl|(rw[HO.out];rfl)) rfl (fun K hK=>?_)
   go_wp2_with fail
   refine (moreShare (x0,x1) (y0,y1) wr.drew (by omega) (by omega)).mono ?_
   rintro e w1 ⟨rfl,hb1⟩
   replace hb1:Below wr.heap.size wr w1:=⟨hb1.os,hb1.tape,hb1.output,hb1.size,hb1.block⟩
   replace c0:=zP hb1 c0
   replace c1:=zP hb1 c1
   replace m0:=zP hb1 m0
   replace m1:=zP hb1 m1
   replace ca0:=zP hb1 ca0
   replace ca1:=zP hb1 ca1
   replace f0:=(hb1.frozen (p:=⟨w.heap.size+1,0,none⟩) hwl).trans f0
   replace f1:=(hb1.frozen (p:=⟨w.heap.size+1,1,none⟩) hwl).trans f1
   replace fa0:=(hb1.frozen (p:=⟨w.heap.size,0,none⟩) (Nat.lt_of_succ_lt hwl)).trans fa0
   replace fa1:=(hb1.frozen (p:=⟨w.heap.size,1,none⟩) (Nat.lt_of_succ_lt hwl)).trans fa1
   replace hb:=hb.trans (hb1.mono hb.size)
   clear hb1
   refine hK _ _ ⟨.inr (⟨c0,c1,m0,m1⟩),hR _ _ ?_⟩;clear hK K hR R
   repeat (refine zeY (fun R hR=>?_);(first|refine zaY (by first|rfl|(rw[HO.out];rfl)) (by simp only[zA,zB,zC,zD];rfl) ?_|refine zbY (by first|rfl|(rw[HO.out];rfl)) rfl (by first|exact .inl rfl|exact .inr rfl) (by simp only[zE,zF,zG,zH];rfl) (by simp only[zA,zB,zC,zD];rfl) ?_|refine zcY (by first|rfl|(rw[HO.out];rfl)) rfl rfl (by simp only[zE,zF,zG,zH];rfl) (by simp only[zA,zB,zC,zD];rfl) ?_|(refine zdY (by first|rfl|(rw[HO.out];rfl)) rfl rfl rfl ?_;apply zEx;apply zEx;refine⟨fun w' hS K hK=>?_,?_,?_⟩;(focus (obtain⟨hS1,hS2,hS3,hS4⟩:=hS;go_wp2;exact hK _ _ (by simp only[zl,zG,zH];first|exact zf (by omega)|exact zg (by omega)|exact zh (by omega)|exact zi (by omega)|exact zj (by omega)|exact zk (by omega)|exact RX.bneB _|rfl) rfl));(focus (simp only[zA,zB,zC,zD];rfl))));refine hR _ _ ?_;clear hR R)
   refine RY.wpL_nil (hQR _ _ ?_);clear hQR QR HO OPS
   by_cases hlt2:y1 < x1
   ·have hdd:decide ((y1:Int)-(x1:Int) < 0)=true:=zDt (by omega)
    have HT2:=HT.out
    rw[if_pos (show (y0,y1).2 < (x0,x1).2 from hlt2)] at HT2
    have HT3:=zN HT2
    clear HT2 HT
    go_wp2
    go_roundw
    case rel=>exact⟨k+1,(x0,x1),by omega,by omega,by go_num,zN ⟨HT3.out,HX.out⟩,by simp[go_sem,m0],by simp[go_sem,m1],by simp[go_sem,f0],by simp[go_sem,f1],by simp[go_sem,fa0],by simp[go_sem,fa1],⟨ua,by simp[go_sem,ca0]⟩,⟨ub,by simp[go_sem,ca1]⟩,(by repeat (first|(with_reducible first|assumption|exact zBr _ _|refine zBs ?_ (by first|omega|(simp<;>omega)) _|refine zBa ?_ (by first|omega|(simp<;>omega)) _|apply zBd)|assumption))⟩
    case measure=>simp[intOf];omega
   ·have hdd:decide ((y1:Int)-(x1:Int) < 0)=false:=zDf (by omega)
    have HT2:=HT.out
    rw[if_neg (show ¬ (y0,y1).2 < (x0,x1).2 from hlt2)] at HT2
    have HT3:=zN HT2
    clear HT2 HT
    go_wp2
    go_roundw
    case rel=>exact⟨k+1,(y0,y1),by omega,by omega,by go_num,zN ⟨HT3.out,HM.out.2⟩,m0,m1,f0,f1,fa0,fa1,⟨ua,ca0⟩,⟨ub,ca1⟩,hb⟩
    case measure=>simp[intOf];omega
  ·obtain rfl:k=S.length:=by omega
   obtain⟨y0,y1⟩:=m
   dsimp only at m0 m1
   have HV:Hid (best S=(y0,y1)):=zN (by rw[hbe.out,←HM.out.1,List.take_of_length_le (by simp)])
   go_wp2
   refine bodyPost_ret (v:=.agg #[.int .i64 y0,.int .i64 y1]) ?_ rfl ⟨by rw[HV.out],(hb.setCell (by simp) _).setCell (by simp) _⟩
   simp[results,Tryz.results91,go_sem,ca0,ca1]
end Go.Proofs.YtednaajanciabaaGreatDoor
