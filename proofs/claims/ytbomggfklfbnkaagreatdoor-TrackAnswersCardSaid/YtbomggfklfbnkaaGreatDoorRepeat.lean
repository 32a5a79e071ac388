import Derived.Test.YtbomggfklfbnkaaGreatDoorKCopy
import Derived.Test.YtbomggfklfbnkaaGreatDoorLaid
set_option maxRecDepth 100000
set_option maxHeartbeats 8000000
set_option linter.unusedSimpArgs false
set_option linter.unusedVariables false
namespace Go.Proofs.YtbomggfklfbnkaaGreatDoor
open Go.RowKit Go.Grid
theorem mul_one (M:Nat) (h:M≤642) (w:World):Calls Tryz.prog 132 #[.int .u64 1,.int .u64 M] w fun e w'=>e=.returned (.tuple #[.int .u64 0,.int .u64 M])∧w=w':=by
 refine (show Calls Tryz.prog 132 #[.int .u64 1,.int .u64 M] w _ from Tryz.bits_Mul 1 M (by omega) (by omega) w).mono ?_
 rintro e w' ⟨rfl,rfl⟩
 refine⟨?_,rfl⟩
 rw[Nat.one_mul,Nat.div_eq_of_lt (by omega),Nat.mod_eq_of_lt (by omega)];rfl
def repTo (z:Int) (k j:Nat):Int:=if j < k then z else 0
def RepAt (w:World) (b M:Nat) (z:Int) (k:Nat):Prop:=∃ cur:Array Value,w.heap[b]?=some (.cells cur 3 (0,0))∧cur.size=M∧∀ j,j < M→cur[j]?=some (.int .i64 (repTo z k j))
theorem RepAt.row {w:World} {b M k:Nat} {z:Int} (h:RepAt w b M z k):FRow w b M (repTo z k):=by
 obtain⟨cur,h1,h2,h3⟩:=h
 intro j hj
 exact⟨by simp[World.cell?,h1,h3 j hj],by simp[World.frozen?,h1]⟩
theorem RepAt.copy {w:World} {b M k m:Nat} {z:Int} {cur:Array Value} (h1:w.heap[b]?=some (.cells cur 3 (0,0))) (h2:cur.size=M) (hc:∀ j,j < M→w.cell? ⟨b,j,none⟩=some (.int .i64 (repTo z k j))) (hm:k+m≤M) :
  RepAt (w.setRow b (cur.toList.take k ++ List.replicate m (Value.int .i64 z) ++ cur.toList.drop (k+(List.replicate m (Value.int .i64 z)).length)).toArray) b M z (k+m):=by
 have h3:∀ j,j < M→cur[j]?=some (.int .i64 (repTo z k j)):=fun j hj=>by
  have:=hc j hj
  simpa[World.cell?,h1] using this
 have hl:(cur.toList.take k).length=k:=by rw[List.length_take];simp;omega
 refine⟨_,setRow_heap w b cur _ 3 _ h1,?_,fun j hj=>?_⟩
 ·simp;omega
 ·rw[List.length_replicate]
  have h9:=h3 j hj
  rw[←Array.getElem?_toList] at h9
  rw[List.getElem?_toArray,List.append_assoc]
  by_cases h:j < k
  ·rw[List.getElem?_append_left (by omega),List.getElem?_take_of_lt h,h9]
   unfold repTo;rw[if_pos h,if_pos (by omega)]
  ·rw[List.getElem?_append_right (by omega),hl]
   by_cases h5:j < k+m
   ·rw[List.getElem?_append_left (by rw[List.length_replicate];omega),List.getElem?_replicate,if_pos (by omega)]
    unfold repTo;rw[if_pos h5]
   ·rw[List.getElem?_append_right (by rw[List.length_replicate];omega),List.length_replicate,List.getElem?_drop,show k+m+(j-k-m)=j by omega,h9]
    unfold repTo;rw[if_neg h,if_neg h5]
theorem repeat_any (z:Int) (b1 c1 M:Nat) (w:World) (hz:w.cell? ⟨b1,0,none⟩=some (.int .i64 z)) (h1:1≤M) (hM:M≤642) (hc1:1≤c1) :
  Calls Tryz.prog 114 #[.slice (some ⟨b1,0,none⟩) 1 c1,.int .i64 M] w fun e w'=>e=.returned (.slice (some ⟨w.heap.size,0,none⟩) M M)∧FRow w' w.heap.size M (fun _=>z)∧Below w.heap.size w w':=by
 have hmk1:=run_make_row' (P:=Tryz.prog) 23 3 (.int .i64 0) 8 Tryz.underlying23 (by kernel_rfl) rfl .i64 .i64 M (by omega) (by omega)
 have hzl:=zM _ _ hz
 have hcp:=RX.run_copyK (P:=Tryz.prog) (w.alloc (.cells (madeCells #[.int .i64 0] M) 3)) 23 23 3 3 1 w.heap.size 0 M M (some ⟨w.heap.size,0,none⟩) (some ⟨b1,0,none⟩) 1 c1 (madeCells #[.int .i64 0] M) 3 (List.replicate 1 (.int .i64 z)) 1 Tryz.underlying23 (by kernel_rfl) (heap_alloc_new _ _) (by show 1=min 1 M;omega) rfl (fun _=>rfl) (fun _=>⟨_,rfl,fun j v hj=>by
  rcases j with _|j
  ·obtain rfl:Value.int .i64 z=v:=by simpa using hj
   exact zP ((zBr _ _).alloc (Nat.le_refl _) _) hz
  ·simp at hj⟩) (by simp[madeCells];omega) (by simp[Value.oneCell'])
 go_enter Tryz.func114,Tryz.ntmps114
 go_wp2_with fail
 refine (mul_one M hM _).mono ?_
 rintro e w1 ⟨rfl,rfl⟩
 go_wp2
 clear hmk1 hcp
 refine absW (F:=fun w'=>RepAt w' w.heap.size M z 1∧Below w.heap.size w w'∧w.heap.size < w'.heap.size) ⟨?_,?_,?_⟩ ?_
 ·have h9:=RepAt.copy (w:=w.alloc (.cells (madeCells #[.int .i64 0] M) 3)) (b:=w.heap.size) (M:=M) (k:=0) (m:=1) (z:=z) (heap_alloc_new _ _) (by simp[madeCells]) (fun j hj=>by
   have h:=World.rowIs_made w (.int .i64 0) M 3
   rw[h.cell hj];unfold repTo;rw[if_neg (by omega)]) (by omega)
  simpa using h9
 ·exact below_setRow ((zBr _ _).alloc (Nat.le_refl _) _) (Nat.le_refl _) _
 ·rw[size_setRow];simp
 rintro W0 ⟨hR,hb,hs⟩
 obtain⟨b,hbe⟩:∃ b,b=w.heap.size:=⟨_,rfl⟩
 have HBE:=zN hbe
 rw[←hbe] at hR hs hb ⊢
 clear hbe hz hzl
 go_loopw [8] (fun i wr=>∃ k:Nat,1≤k∧k≤M∧i=.int .i64 k∧RepAt wr b M z k∧Below b w wr) (fun i _=>M-(intOf i).toNat)
 case atStart=>exact⟨1,Nat.le_refl _,h1,rfl,hR,hb⟩
 case round=>
  clear hR hb hs
  obtain⟨k,hk1,hk,rfl,hR,hb⟩:=hrel
  by_cases hlt:k < M
  ·have hdk:decide ((k:Int) < (M:Int))=true:=zDt (by omega)
   have hk0:(0:Int)≤(k:Int):=by omega
   have hkM:(k:Int)≤(M:Int):=by omega
   have hck:¬ M=k:=by omega
   have hck2:¬ M-k=0:=by omega
   obtain⟨m,hm⟩:∃ m,m=Nat.min k (M-k):=⟨_,rfl⟩
   have hm1:1≤m∧m≤k∧k+m≤M:=by rw[hm];simp only[Nat.min_def];split<;>omega
   have hrow:=hR.row
   obtain⟨cur,c1,c2,c3⟩:=hR
   have HN:=zN (RepAt.copy (m:=m) c1 c2 (fun j hj=>(hrow j hj).1) hm1.2.2)
   have HS:Hid (∀ j v,(List.replicate m (Value.int .i64 z))[j]?=some v→wr.cell? ⟨b,j,none⟩=some v):=zN (fun j v hj=>by
    have hjm:j < m:=by
     have:=(List.getElem?_eq_some_iff.1 hj).1;simpa using this
    rw[List.getElem?_replicate,if_pos hjm] at hj
    rw[(hrow j (by omega)).1,←hj];unfold repTo;rw[if_pos (by omega)])
   have HM:=zN hm
   have HB:=zN hb
   clear hrow c3 hm hb
   go_wp2
   refine RX.region RX.fL (fun _=>True) (by kernel_rfl) (by kernel_rfl) (trivial) (fun OPS HO QR hQR=>?_)
   repeat (refine zeX (fun R hR=>?_);(first|refine zaX (by first|rfl|(rw[HO.out];rfl)) (by simp only[zA,zB,zC,zD];rfl) ?_|refine zbX (by first|rfl|(rw[HO.out];rfl)) rfl (by first|exact .inl rfl|exact .inr rfl) (by simp only[zE,zF,zG,zH];rfl) (by simp only[zA,zB,zC,zD];rfl) ?_|refine zcX (by first|rfl|(rw[HO.out];rfl)) rfl rfl (by simp only[zE,zF,zG,zH];rfl) (by simp only[zA,zB,zC,zD];rfl) ?_|(refine zdX (by first|rfl|(rw[HO.out];rfl)) rfl rfl rfl ?_;apply zEx;apply zEx;refine⟨fun w' hS K hK=>?_,?_,?_⟩;(focus (go_wp2;exact hK _ _ (by simp only[zl,zG,zH];first|exact zf (by omega)|exact zg (by omega)|exact zh (by omega)|exact zi (by omega)|exact zj (by omega)|exact zk (by omega)|exact RX.bneB _|rfl) rfl));(focus (simp only[zA,zB,zC,zD];rfl))));refine hR _ _ ?_;clear hR R)
   refine zeX (fun R hR=>?_)
   refine zgX (by first|rfl|(rw[HO.out];rfl)) rfl (fun K hK=>?_)
   refine RX.wp_copyK _ _ 23 23 3 rfl 1 Tryz.underlying23 (by kernel_rfl) b k _ _ _ _ _ _ (by simp only[RX.eval_tmp,RX.eval_const,List.getD_cons_zero,List.getD_cons_succ];rfl) (by simp only[RX.eval_tmp,RX.eval_const,List.getD_cons_zero,List.getD_cons_succ];rfl) cur 3 c1 (List.replicate m (.int .i64 z)) m HM.out (by simp) (fun _=>rfl) (fun _=>⟨⟨b,0,none⟩,rfl,fun j u hj=>?_⟩) ?_ ?_ ?_
   ·have h9:=HS.out j u hj
    unfold Addr.add
    split
    ·rename_i h0;subst h0;exact h9
    ·rw[show 0+j=j by omega];exact h9
   ·rw[List.length_replicate];omega
   ·intro u hu;obtain⟨_,rfl⟩:=List.mem_replicate.1 hu;rfl
   refine hK _ _ ⟨trivial,?_⟩;clear hK K;refine RX.at_ (by simp only[RX.put_some,RX.put_none,List.set_cons_zero,List.set_cons_succ];rfl) (hR _ _ ?_);clear hR R
   have hkm:(k:Int)+(m:Int)≤642:=by omega
   repeat (refine zeX (fun R hR=>?_);(first|refine zaX (by first|rfl|(rw[HO.out];rfl)) (by simp only[zA,zB,zC,zD];rfl) ?_|refine zbX (by first|rfl|(rw[HO.out];rfl)) rfl (by first|exact .inl rfl|exact .inr rfl) (by simp only[zE,zF,zG,zH];rfl) (by simp only[zA,zB,zC,zD];rfl) ?_|refine zcX (by first|rfl|(rw[HO.out];rfl)) rfl rfl (by simp only[zE,zF,zG,zH];rfl) (by simp only[zA,zB,zC,zD];rfl) ?_|(refine zdX (by first|rfl|(rw[HO.out];rfl)) rfl rfl rfl ?_;apply zEx;apply zEx;refine⟨fun w' hS K hK=>?_,?_,?_⟩;(focus (go_wp2;exact hK _ _ (by simp only[zl,zG,zH];first|exact zf (by omega)|exact zg (by omega)|exact zh (by omega)|exact zi (by omega)|exact zj (by omega)|exact zk (by omega)|exact RX.bneB _|rfl) rfl));(focus (simp only[zA,zB,zC,zD];rfl))));refine hR _ _ ?_;clear hR R)
   refine RX.wpL_nil (hQR _ _ (trivial) ?_);clear hQR QR HO OPS
   have HB2:=zN (below_setRow (HB.out.drew) (Nat.le_refl b) (cur.toList.take k ++ List.replicate m (Value.int .i64 z) ++ cur.toList.drop (k+(List.replicate m (Value.int .i64 z)).length)).toArray)
   go_roundw
   case rel=>first|exact⟨k+m,by omega,by omega,by go_num,HN.out,HB2.out⟩|((repeat apply zEx);refine⟨⟨k+m,by omega,by omega,?_,HN.out,HB2.out⟩,rfl⟩;first|rfl|go_num)
   case measure=>simp[intOf];omega
  ·have hdk:decide ((k:Int) < (M:Int))=false:=zDf (by omega)
   have hkM:k=M:=by omega
   have HB:=zN hb
   have hF:=hR.row
   rw[hkM] at hF
   have HF:Hid (FRow wr b M (fun _=>z)):=zN (hF.ext (fun j hj=>by unfold repTo;rw[if_pos hj]))
   clear hkM hb hR hF
   go_wp2
   go_ret
   exact⟨(by rw[HBE.out];rfl),by rw[←HBE.out];exact HF.out,by rw[←HBE.out];exact HB.out⟩
end Go.Proofs.YtbomggfklfbnkaaGreatDoor
