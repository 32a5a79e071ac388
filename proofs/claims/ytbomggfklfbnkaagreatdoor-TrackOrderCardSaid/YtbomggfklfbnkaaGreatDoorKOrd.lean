import Derived.Test.YtbomggfklfbnkaaGreatDoorKTrkM
import Derived.Test.YtbomggfklfbnkaaGreatDoorKChain
import Derived.Test.YtbomggfklfbnkaaGreatDoorKTrkN
import Derived.Test.YtbomggfklfbnkaaGreatDoorKTrkU
import Derived.Test.YtbomggfklfbnkaaGreatDoorKTrkS
set_option maxRecDepth 100000
set_option maxHeartbeats 8000000
set_option linter.unusedSimpArgs false
set_option linter.unusedVariables false
namespace Go.Proofs.YtbomggfklfbnkaaGreatDoor
open Go.RowKit Go.Grid Go.Maps Go.Sort Go.Shelf Go.Chain
theorem qV_one (D:List Nat):∀ u∈qV D,u.oneCell'=true:=by
 intro u hu
 unfold qV at hu
 rw[List.mem_map] at hu
 obtain⟨x,_,rfl⟩:=hu
 rfl
theorem qV_len (D:List Nat):(qV D).length=D.length:=by simp[qV]
theorem qV_drop (D:List Nat) (k:Nat):(qV D).drop k=qV (D.drop k):=by simp[qV]
theorem qV_take (D:List Nat) (k:Nat):(qV D).take k=qV (D.take k):=by simp[qV]
theorem ins_perm {D:List Nat} {i k:Nat} (h:D.Perm (List.range i)):(D.take k ++ ([i] ++ D.drop k)).Perm (List.range (i+1)):=by
 rw[List.range_succ]
 have h1:(D.take k ++ ([i] ++ D.drop k)).Perm (i :: (D.take k ++ D.drop k)):=List.perm_middle
 rw[List.take_append_drop] at h1
 exact h1.trans ((List.Perm.cons i h).trans (List.perm_append_singleton i (List.range i)).symm)
theorem QRow.ins {w:World} {base base' k i:Nat} {v:Value} {D:List Nat} (hk:k≤D.length) (h:w.ownsRow base' 3 1 v (k+(1+(D.length-k))) (qV (D.take k) ++ (#[Value.int .i64 (i:Int)].toList ++ qV (D.drop k)))) (hb:base≤base'):QRow w base v (D.take k ++ ([i] ++ D.drop k)):=by
 unfold QRow
 have e:(D.take k ++ ([i] ++ D.drop k)).length=k+(1+(D.length-k)):=by simp;omega
 rw[e]
 have e2:qV (D.take k ++ ([i] ++ D.drop k))=qV (D.take k) ++ (#[Value.int .i64 (i:Int)].toList ++ qV (D.drop k)):=by simp[qV]
 rw[e2]
 exact own_mono h hb
theorem order_any (w:World) (g b n j:Nat) (m:Nat) (hm:m≤100) (h:SrcAt w g b n j) :
  Calls Tryz.prog 23 #[.pointer (some ⟨g,0,none⟩),.int .i64 (m:Int)] w fun e w'=>∃ v O,e=.returned v∧O.Perm (List.range m)∧QRow w' w.heap.size v O∧w.grownBy w' (some g)∧∃ j,SrcAt w' g b n j:=by
 have hgl:=h.lt
 have HS0:=zN h
 clear h
 go_enter Tryz.func23,Tryz.ntmps23
 go_wp2
 go_loopw [5,6] (fun v5 v6 wr=>∃ (i:Nat) (D:List Nat),i≤m∧v6=.int .i64 (i:Int)∧D.Perm (List.range i)∧QRow wr w.heap.size v5 D∧w.grownBy wr (some g)∧∃ j,SrcAt wr g b n j) (fun _ v6 _=>m-(intOf v6).toNat)
 case atStart=>exact⟨0,[],by omega,rfl,List.Perm.refl _,World.ownsRow_nil _ _ _ _,World.grownBy.refl _ _,_,HS0.out⟩
 case round=>
  obtain⟨i,D,him,rfl,hP,hq,hg,j1,hs⟩:=hrel
  obtain⟨A,cap,rfl,hcap⟩:=own_slice hq
  have hDl:D.length=i:=by rw[hP.length_eq,List.length_range]
  by_cases hi:i < m
  ·have hdk:decide ((i:Int) < (m:Int))=true:=zDt (by omega)
   have HP:=zN hP
   have HG:=zN hg
   have HQ:=zN hq
   have hD100:D.length≤100:=by omega
   have HDL:=zN hDl
   have hsz:=hg.size
   clear hP hg hq hDl
   go_wp2_with fail
   refine (srcN_any wr g b n j1 ((D.length:Int)+1) hs (by omega) (by omega)).mono ?_
   rintro e w1 ⟨x,rfl,hx0,hx1,hg1,j2,hs2⟩
   obtain⟨k,rfl⟩:=Int.eq_ofNat_of_zero_le hx0
   have hkD:k≤D.length:=by omega
   have hq1:=own_gr HQ.out hg1 hgl
   have HG1:=zN (HG.out.trans hg1)
   have hsz1:=hg1.size
   have HS:=zN hs2
   clear hg1 hs hs2 HQ HG
   have hb1:Below w1.heap.size w1 (w1.alloc (.cells #[.int .i64 (i:Int)] 3)):=(zBr _ _).alloc (Nat.le_refl _) _
   have hkk:(0:Int)≤(k:Int):=by omega
   cases A with
   |none=>
    have hD0:D=[]:=by
     rcases Nat.eq_zero_or_pos D.length with h0|h0
     ·exact List.eq_nil_of_length_eq_zero h0
     ·obtain⟨g',c',e,_⟩:=hq1.form h0
      cases e
    subst hD0
    have hk0:k=0:=by simpa using hkD
    subst hk0
    simp only[List.length_nil] at *
    have hown1:(w1.alloc (.cells #[.int .i64 (i:Int)] 3)).ownsRow w1.heap.size 3 1 (.slice (some ⟨w1.heap.size,0,none⟩) 1 1) 1 #[Value.int .i64 (i:Int)].toList:=RX.own_new (heap_alloc_new _ _) rfl
    have hb2:=hb1
    go_wp2_with (refine RX.wpl_apg (by rfl) elInt _ _ (by rfl) none 0 [] (by rfl) (fun _=>rfl) rfl (RX.SrcAt.none _ _ _) w1.heap.size 1 _ _ (by rfl) hown1 (by omega) (by intro u hu;simp at hu;subst hu;rfl) (by omega) (by omega) ?_;intro v3 w3 hown3 hg3)
    have hb3:Below w1.heap.size w1 w3:=hb2.grown hg3 hb2.size (fun k' hk'=>by cases hk')
    have HQ3:Hid (QRow w3 w.heap.size v3 (([]:List Nat).take 0 ++ ([i] ++ ([]:List Nat).drop 0))):=zN (QRow.ins (D:=([]:List Nat)) (k:=0) hkD (by simpa[qV] using hown3) (by omega))
    have HG3:Hid (w.grownBy w3 (some g)):=zN (HG1.out.trans (grw_below hb3 _))
    have HS3:=zN (HS.out.below hb3)
    clear hown1 hown3 hg3 hb1 hb2 hb3 hq1
    go_wp2
    go_roundw
    case rel=>exact⟨i+1,_,by omega,by go_num,ins_perm HP.out,HQ3.out,HG3.out,j2,HS3.out⟩
    case measure=>simp[intOf]<;>omega
   |some ad=>
    obtain⟨b',rfl⟩:∃ b',ad=⟨b',0,none⟩:=by
     rcases hq1.2 with ⟨e,_⟩|⟨g',c',cur,e,_⟩
     ·cases e
     ·injection e with e
      injection e with e
      exact⟨g',e⟩
    have hq1a:=World.ownsRow.alloc hq1 (.cells #[.int .i64 (i:Int)] 3)
    by_cases hkl:cap=k
    ·have hDk:D.length=k:=by omega
     have hsrc:RX.SrcAt (w1.alloc (.cells #[.int .i64 (i:Int)] 3)) (some ⟨b',0,none⟩) (D.length-k) (qV (D.drop k)):=by rw[hDk,Nat.sub_self];exact RX.SrcAt.none _ _ _
     clear hDk
     subst hkl
     have hz:D.length-cap=0:=by omega
     rw[hz] at hsrc
     have HZ:=zN hz
     clear hz
     go_wp2_with (first
      |(refine RX.wpl_apr (by rfl) elInt _ _ (by rfl) w1.heap.size #[.int .i64 (i:Int)] (by rfl) (heap_alloc_new _ _) (by rfl) (some ⟨b',0,none⟩) 0 _ (qV (D.drop cap)) (by rfl) (by rw[qV_len,List.length_drop,Nat.mul_one];exact HZ.out) hsrc (qV_one _) (by omega) (by omega) ?_;intro v2 w2 hown1 hg2 hat2;have hb2:Below w1.heap.size w1 w2:=hb1.grown hg2 (by simp) (fun k' hk'=>by injection hk' with hk';omega);have hs2:=(RX.SrcAt.of_own (own_bl hq1 hb2)).take (k:=cap) (size:=1) (by omega);rw[Nat.mul_one,qV_take] at hs2;clear hg2 hat2;have hb2s:=hb2.size)
      |(refine RX.wpl_apg (by rfl) elInt _ _ (by rfl) (some ⟨b',0,none⟩) cap (qV (D.take cap)) (by rfl) (fun e=>by cases e) (by rw[qV_len,List.length_take,Nat.mul_one];omega) hs2 w1.heap.size (1+0) v2 _ (by rfl) hown1 (by omega) (by intro u hu;rcases List.mem_append.1 hu with hu|hu;(simp at hu;subst hu;rfl);exact qV_one _ u hu) (by omega) (by omega) ?_;intro v3 w3 hown3 hg3))
     have hb3:Below w1.heap.size w1 w3:=hb2.grown hg3 hb2.size (fun k' hk'=>by cases hk')
     have HQ3:Hid (QRow w3 w.heap.size v3 (D.take cap ++ ([i] ++ D.drop cap))):=zN (QRow.ins (D:=D) (k:=cap) hkD (by rw[HZ.out];exact hown3) (by omega))
     have HG3:Hid (w.grownBy w3 (some g)):=zN (HG1.out.trans (grw_below hb3 _))
     have HS3:=zN (HS.out.below hb3)
     clear hown1 hown3 hg3 hb1 hb2 hb3 hq1
     go_wp2
     go_roundw
     case rel=>exact⟨i+1,_,by omega,by go_num,ins_perm HP.out,HQ3.out,HG3.out,j2,HS3.out⟩
     case measure=>simp[intOf]<;>omega
    ·have hsrc:RX.SrcAt (w1.alloc (.cells #[.int .i64 (i:Int)] 3)) (some ⟨b',k,none⟩) (D.length-k) (qV (D.drop k)):=by
      have h9:=(RX.SrcAt.of_own hq1a).cut (k:=k) (cap:=cap) (size:=1) (by omega) hcap
      rw[if_neg hkl,Nat.mul_one,qV_drop] at h9
      simpa[Addr.add_lit] using h9
     have hkl2:¬ k=cap:=fun e=>hkl e.symm
     go_wp2_with (first
      |(refine RX.wpl_apr (by rfl) elInt _ _ (by rfl) w1.heap.size #[.int .i64 (i:Int)] (by rfl) (heap_alloc_new _ _) (by rfl) (some ⟨b',k,none⟩) (D.length-k) _ (qV (D.drop k)) (by rfl) (by rw[qV_len,List.length_drop,Nat.mul_one]) hsrc (qV_one _) (by omega) (by omega) ?_;intro v2 w2 hown1 hg2 hat2;have hb2:Below w1.heap.size w1 w2:=hb1.grown hg2 (by simp) (fun k' hk'=>by injection hk' with hk';omega);have hs2:=(RX.SrcAt.of_own (own_bl hq1 hb2)).take (k:=k) (size:=1) (by omega);rw[Nat.mul_one,qV_take] at hs2;clear hg2 hat2;have hb2s:=hb2.size)
      |(refine RX.wpl_apg (by rfl) elInt _ _ (by rfl) (some ⟨b',0,none⟩) k (qV (D.take k)) (by rfl) (fun e=>by cases e) (by rw[qV_len,List.length_take,Nat.mul_one];omega) hs2 w1.heap.size (1+(D.length-k)) v2 _ (by rfl) hown1 (by omega) (by intro u hu;rcases List.mem_append.1 hu with hu|hu;(simp at hu;subst hu;rfl);exact qV_one _ u hu) (by omega) (by omega) ?_;intro v3 w3 hown3 hg3))
     have hb3:Below w1.heap.size w1 w3:=hb2.grown hg3 hb2.size (fun k' hk'=>by cases hk')
     have HQ3:Hid (QRow w3 w.heap.size v3 (D.take k ++ ([i] ++ D.drop k))):=zN (QRow.ins (D:=D) (k:=k) hkD hown3 (by omega))
     have HG3:Hid (w.grownBy w3 (some g)):=zN (HG1.out.trans (grw_below hb3 _))
     have HS3:=zN (HS.out.below hb3)
     clear hown1 hown3 hg3 hb1 hb2 hb3 hq1
     go_wp2
     go_roundw
     case rel=>exact⟨i+1,_,by omega,by go_num,ins_perm HP.out,HQ3.out,HG3.out,j2,HS3.out⟩
     case measure=>simp[intOf]<;>omega
  ·have hdk:decide ((i:Int) < (m:Int))=false:=zDf (by omega)
   have him':i=m:=by omega
   have HF:=zN (And.intro (him' ▸ hP) (And.intro hq (And.intro hg hs)))
   clear hP hq hg hs him'
   go_wp2
   go_ret
   exact⟨_,D,rfl,HF.out.1,HF.out.2.1,HF.out.2.2.1,j1,HF.out.2.2.2⟩
end Go.Proofs.YtbomggfklfbnkaaGreatDoor
namespace Go.Chain
section
variable {α:Type} [DecidableEq α]
theorem ord_len {O:List Nat} {n:Nat} (hO:O.Perm (List.range n)):O.length=n:=by rw[hO.length_eq,List.length_range]
theorem ord_get {O:List Nat} {n i:Nat} (hO:O.Perm (List.range n)) (h:i < n):O.getD i 0=O[i]'(by rw[ord_len hO];exact h):=by
 rw[List.getD_eq_getElem?_getD,List.getElem?_eq_getElem (by rw[ord_len hO];exact h)];rfl
theorem ord_lt {O:List Nat} {n i:Nat} (hO:O.Perm (List.range n)) (h:i < n):O.getD i 0 < n:=by
 rw[ord_get hO h]
 exact List.mem_range.1 (hO.mem_iff.1 (List.getElem_mem _))
theorem ord_inj {O:List Nat} {n i k:Nat} (hO:O.Perm (List.range n)) (hi:i < n) (hk:k < n) (h:O.getD i 0=O.getD k 0):i=k:=by
 rw[ord_get hO hi,ord_get hO hk] at h
 have hn:O.Nodup:=hO.nodup_iff.2 List.nodup_range
 rcases Nat.lt_trichotomy i k with h1|h1|h1
 ·exact absurd h (List.pairwise_iff_getElem.1 hn i k _ _ h1)
 ·exact h1
 ·exact absurd h.symm (List.pairwise_iff_getElem.1 hn k i _ _ h1)
theorem ord_sur {O:List Nat} {n j:Nat} (hO:O.Perm (List.range n)) (h:j < n):∃ i,i < n∧O.getD i 0=j:=by
 have hm:j∈O:=hO.mem_iff.2 (List.mem_range.2 h)
 obtain⟨i,hi,e⟩:=List.getElem_of_mem hm
 have hi':i < n:=by rw[←ord_len hO];exact hi
 exact⟨i,hi',by rw[ord_get hO hi'];exact e⟩
theorem pw_map_lt {f:Nat→Nat} {n:Nat} {T:List Nat} (hT:∀ i∈T,i < n) (hn:T.Nodup) (hf:∀ i k,i < n→k < n→f i=f k→i=k):(T.map f).Nodup:=by
 unfold List.Nodup
 rw[List.pairwise_map]
 exact List.Pairwise.imp_of_mem (fun {a b} ha hb h e=>h (hf a b (hT a ha) (hT b hb) e)) hn
theorem susp_ord {R R':Rs α} {P P':Nat→Nat→Bool} {O:List Nat} (hO:O.Perm (List.range R.n)) (hn:R'.n=R.n) (hmv:∀ i,i < R.n→R'.mv i=R.mv (O.getD i 0)) (hnm:∀ i,i < R.n→R'.nm i=R.nm (O.getD i 0)) (htm:∀ i,i < R.n→R'.tm i=R.tm (O.getD i 0))
  (hP:∀ i k,i < R.n→k < R.n→P' i k=P (O.getD i 0) (O.getD k 0)) (hcc:∀ (Q Q':Nat→Nat→Bool) m,(∀ i k,i < m→k < m→Q i k=Q' i k)→chainP Q m=chainP Q' m) (hd:¬ R.Dup) :
  (∀ i,i < R.n→(i∈R'.susp P'↔O.getD i 0∈R.susp P))∧(R'.susp P').length=(R.susp P).length∧¬ R'.Dup:=by
 have hsame:∀ i k,i < R.n→k < R.n→i≠k→R.mv i=true→R.mv k=true→R.nm i=R.nm k→R.tm i≠R.tm k:=fun i k hi hk hne h1 h2 h3 h4=>by
  rcases Nat.lt_or_gt_of_ne hne with h|h
  ·exact hd ⟨k,i,h,hk,h2,h1,h3.symm,h4.symm⟩
  ·exact hd ⟨i,k,h,hi,h1,h2,h3,h4⟩
 have hgs:∀ s,(R'.gs s).map (fun i=>O.getD i 0)=R.gs s:=fun s=>by
  have g':=R'.gs_is s
  have hlt:∀ i∈R'.gs s,i < R.n:=fun i hi=>by have:=(g'.mem.1 hi).1;omega
  refine Rs.IsG.unique ⟨(List.perm_ext_iff_of_nodup (pw_map_lt hlt g'.nodup (fun i k hi hk=>ord_inj hO hi hk)) (R.grp_nodup s)).2 (fun j=>?_),?_⟩ hd
  ·rw[List.mem_map,Rs.mem_grp]
   constructor
   ·rintro⟨i,hi,rfl⟩
    obtain⟨h1,h2,h3⟩:=g'.mem.1 hi
    have h1':i < R.n:=by omega
    exact⟨ord_lt hO h1',by rw[←hmv i h1'];exact h2,by rw[←hnm i h1'];exact h3⟩
   ·rintro⟨h1,h2,h3⟩
    obtain⟨i,hi,rfl⟩:=ord_sur hO h1
    exact⟨i,g'.mem.2 ⟨by omega,by rw[hmv i hi];exact h2,by rw[hnm i hi];exact h3⟩,rfl⟩
  ·rw[List.pairwise_map]
   refine List.Pairwise.imp_of_mem (fun {a b} ha hb h=>?_) g'.asc
   rw[←htm a (hlt a ha),←htm b (hlt b hb)]
   exact h
 have hbad:∀ s i,i < R.n→(i∈badL P' (R'.gs s)↔O.getD i 0∈badL P (R.gs s)):=fun s i hi=>by
  have g':=R'.gs_is s
  have hlt:∀ i∈R'.gs s,i < R.n:=fun i hi=>by have:=(g'.mem.1 hi).1;omega
  have hl:(R.gs s).length=(R'.gs s).length:=by rw[←hgs s,List.length_map]
  have hT:∀ a (h:a < (R'.gs s).length),(R.gs s)[a]'(by rw[hl];exact h)=O.getD ((R'.gs s)[a]) 0:=fun a h=>by
   have e:(R.gs s)[a]?=((R'.gs s).map (fun i=>O.getD i 0))[a]?:=by rw[hgs s]
   rw[List.getElem?_eq_getElem (by rw[hl];exact h),List.getElem?_eq_getElem (by rw[List.length_map];exact h),List.getElem_map] at e
   exact Option.some.inj e
  have hgD:∀ (T:List Nat) a (h:a < T.length),T.getD a 0=T[a]:=fun T a h=>by
   rw[List.getD_eq_getElem?_getD,List.getElem?_eq_getElem h];rfl
  have hch:chainP (fun a b=>P' ((R'.gs s).getD a 0) ((R'.gs s).getD b 0)) (R'.gs s).length=chainP (fun a b=>P ((R.gs s).getD a 0) ((R.gs s).getD b 0)) (R.gs s).length:=by
   rw[hl]
   refine hcc _ _ _ fun a b ha hb=>?_
   rw[hgD _ a ha,hgD _ b hb,hgD _ a (by rw[hl];exact ha),hgD _ b (by rw[hl];exact hb),hT a ha,hT b hb]
   exact hP _ _ (hlt _ (List.getElem_mem ha)) (hlt _ (List.getElem_mem hb))
  rw[mem_badL,mem_badL,hch]
  constructor
  ·rintro⟨j,hj,h1,rfl⟩
   exact⟨j,by rw[hl];exact hj,h1,hT j hj⟩
  ·rintro⟨j,hj,h1,h2⟩
   have hj':j < (R'.gs s).length:=by rw[←hl];exact hj
   refine⟨j,hj',h1,ord_inj hO (hlt _ (List.getElem_mem hj')) hi ?_⟩
   rw[←hT j hj']
   exact h2
 have hmem:∀ i,i < R.n→(i∈R'.susp P'↔O.getD i 0∈R.susp P):=fun i hi=>by
  rw[Rs.mem_susp,Rs.mem_susp,hmv i hi,hnm i hi,hbad _ i hi]
  constructor
  ·rintro⟨_,h2,h3⟩
   exact⟨ord_lt hO hi,h2,h3⟩
  ·rintro⟨_,h2,h3⟩
   exact⟨by omega,h2,h3⟩
 refine⟨hmem,?_,?_⟩
 ·have hlt:∀ i∈R'.susp P',i < R.n:=fun i hi=>by have:=(Rs.mem_susp.1 hi).1;omega
  have h1:((R'.susp P').map (fun i=>O.getD i 0)).Perm (R.susp P):=by
   refine (List.perm_ext_iff_of_nodup (pw_map_lt hlt ((R'.susp_asc P').imp (fun h=>by omega)) (fun i k hi hk=>ord_inj hO hi hk)) ((R.susp_asc P).imp (fun h=>by omega))).2 (fun j=>?_)
   rw[List.mem_map]
   constructor
   ·rintro⟨i,hi,rfl⟩
    exact (hmem i (hlt i hi)).1 hi
   ·intro hj
    obtain⟨i,hi,rfl⟩:=ord_sur hO (Rs.mem_susp.1 hj).1
    exact⟨i,(hmem i hi).2 hj,rfl⟩
  have:=h1.length_eq
  rw[List.length_map] at this
  exact this
 ·rintro⟨i,k,hki,hi,h1,h2,h3,h4⟩
  have hi':i < R.n:=by omega
  have hk':k < R.n:=by omega
  rw[hmv i hi'] at h1
  rw[hmv k hk'] at h2
  rw[hnm i hi',hnm k hk'] at h3
  rw[htm i hi',htm k hk'] at h4
  exact hsame _ _ (ord_lt hO hi') (ord_lt hO hk') (fun e=>by have:=ord_inj hO hi' hk' e;omega) h1 h2 h3 h4
end
end Go.Chain
namespace Go.Proofs.YtbomggfklfbnkaaGreatDoor
open Go.RowKit Go.Grid Go.Maps Go.Sort Go.Shelf Go.Chain
theorem own_set {w:World} {base b n cap size:Nat} {e:TypeId} {xs:List Value} (h:w.ownsRow base e size (.slice (some ⟨b,0,none⟩) n cap) n xs) (k:Nat) (u:Value) (hk:k < n*size):(w.setCell ⟨b,k,none⟩ u).ownsRow base e size (.slice (some ⟨b,0,none⟩) n cap) n (xs.set k u):=by
 refine⟨by rw[List.length_set];exact h.1,?_⟩
 rcases h.2 with ⟨h1,_⟩|⟨g,cap',cur,h1,h2,h3,h4,h5,h6,h7⟩
 ·cases h1
 ·injection h1 with e1 _ e2
  injection e1 with e1
  injection e1 with e1
  subst e1 e2
  refine .inr ⟨b,cap,cur.setIfInBounds k u,rfl,h2,?_,h4,h5,by simpa using h6,?_⟩
  ·simp[World.setCell,Array.getElem?_modify,h3]
  ·rw[←h7,Array.toList_setIfInBounds,List.take_set]
theorem rps_set {u:Value} {c:Nat} {r':Rep} (hc:c < 8):∀ (L:List Rep) (i:Nat) (hi:i < L.length),rpc r'=(rpc L[i]).set c u→(L.flatMap rpc).set (i*8+c) u=(L.set i r').flatMap rpc
 |[],i,hi,_=>absurd hi (by simp)
 |p :: L,0,_,h=>by
  have h':rpc r'=(rpc p).set c u:=h
  rw[List.set_cons_zero,List.flatMap_cons,List.flatMap_cons,h',List.set_append_left _ _ (by simp[rpc];omega),Nat.zero_mul,Nat.zero_add]
 |p :: L,i+1,hi,h=>by
  rw[List.set_cons_succ,List.flatMap_cons,List.flatMap_cons,←rps_set hc L i (by simpa using hi) h,List.set_append_right _ _ (by simp[rpc];omega)]
  congr 2
  simp[rpc];omega
theorem RepRow.put {w:World} {base b n cap:Nat} {L:List Rep} (h:RepRow w base (.slice (some ⟨b,0,none⟩) n cap) L) (hn:L.length=n) {i c:Nat} {u:Value} {r':Rep} (hi:i < L.length) (hc:c < 8) (hr:rpc r'=(rpc L[i]).set c u):RepRow (w.setCell ⟨b,i*8+c,none⟩ u) base (.slice (some ⟨b,0,none⟩) n cap) (L.set i r'):=by
 unfold RepRow at h ⊢
 subst hn
 rw[List.length_set,←rps_set hc L i hi hr]
 exact own_set h _ u (by omega)
theorem RepRow.cell8 {w:World} {base b n cap:Nat} {L:List Rep} (h:RepRow w base (.slice (some ⟨b,0,none⟩) n cap) L) {i c:Nat} (hi:i < L.length) (hc:c < 8) {u:Value} (hu:(rpc L[i])[c]?=some u):w.cell? ⟨b,i*8+c,none⟩=some u:=by
 have:=World.ownsRow.cells h (g:=b) rfl (i*8+c) u (by rw[rps_get L i hi c hc];exact hu)
 rwa[Addr.add_lit,Nat.zero_add] at this
theorem RepRow.soft8 {w:World} {base b n cap:Nat} {L:List Rep} (h:RepRow w base (.slice (some ⟨b,0,none⟩) n cap) L) (j:Nat):w.frozen? ⟨b,j,none⟩=false:=by
 rcases h.2 with ⟨h1,_⟩|⟨g,cap',cur,h1,_,h3,_⟩
 ·cases h1
 ·injection h1 with e
  injection e with e
  injection e with e
  subst e
  simp[World.frozen?,h3]
theorem asc_all {c:List Nat} {n:Nat} (h:c.Pairwise (· < ·)) (hl:c.length=n) (hb:∀ i∈c,i < n):∀ j,j < n→j∈c:=by
 have ge:∀ j (hj:j < c.length),j≤c[j]:=by
  intro j
  induction j with
  |zero=>intro _;omega
  |succ j ih=>
   intro hj
   have h1:=ih (by omega)
   have h2:=List.pairwise_iff_getElem.1 h j (j+1) (by omega) hj (by omega)
   omega
 have le:∀ d j (hj:j < c.length),j+d+1=c.length→c[j]≤j:=by
  intro d
  induction d with
  |zero=>intro j hj e;have:=hb _ (List.getElem_mem hj);omega
  |succ d ih=>
   intro j hj e
   have h1:=ih (j+1) (by omega) (by omega)
   have h2:=List.pairwise_iff_getElem.1 h j (j+1) hj (by omega) (by omega)
   omega
 intro j hj
 have hj':j < c.length:=by omega
 have e:c[j]=j:=by
  have h1:=ge j hj'
  have h2:=le (c.length-j-1) j hj' (by omega)
  omega
 rw[←e]
 exact List.getElem_mem hj'
theorem badL_full {P:Nat→Nat→Bool} {T:List Nat} (h:∀ j (hj:j+1 < T.length),P T[j] T[j+1]=true):badL P T=[]:=by
 have hg:∀ a (ha:a < T.length),T.getD a 0=T[a]:=fun a ha=>getD_nat ha
 have h1:=chain_full (P:=fun a b=>P (T.getD a 0) (T.getD b 0)) (n:=T.length) (fun i hi=>by rw[hg i (by omega),hg (i+1) hi];exact h i hi)
 have h2:=(ok_of _ (chain_facts (fun a b=>P (T.getD a 0) (T.getD b 0)) T.length).1).2
 have h3:=asc_all h2 h1 (chain_lt _ _)
 rw[List.eq_nil_iff_forall_not_mem]
 intro i hi
 obtain⟨j,hj,h4,_⟩:=mem_badL.1 hi
 exact h4 (h3 j hj)
theorem asc_dup {l:List Rep} (hm:∀ i k (hi:i < l.length) (hk:k < i),movB l[i]=true→movB (l[k]'(by omega))=true→(l[k]'(by omega)).time < l[i].time):¬ (rsOf l).Dup:=by
 rintro⟨i,k,hki,hi,h1,h2,_,h4⟩
 have hi':i < l.length:=hi
 have e1:movB (l.getD i rep0)=true:=h1
 have e2:movB (l.getD k rep0)=true:=h2
 have e3:(l.getD i rep0).time=(l.getD k rep0).time:=h4
 rw[getD_rep hi'] at e1 e3
 rw[getD_rep (by omega)] at e2 e3
 have:=hm i k hi' hki e1 e2
 omega
theorem land_dup {l:List Rep} {r:Rep} (ha:l.Pairwise (fun r s=>r.time < s.time)) (hr:movB r=false):¬ (rsOf (l ++ [r])).Dup:=by
 refine asc_dup fun i k hi hk h1 h2=>?_
 rw[List.length_append,List.length_singleton] at hi
 by_cases h:i < l.length
 ·rw[List.getElem_append_left h,List.getElem_append_left (by omega)]
  exact List.pairwise_iff_getElem.1 ha k i (by omega) h hk
 ·rw[List.getElem_append_right (by omega)] at h1
  simp only[List.getElem_singleton] at h1
  rw[hr] at h1
  cases h1
theorem hopN_self (p:Pl):hopN p p=0:=by
 unfold hopN
 rw[if_pos rfl]
theorem same_none {n:Int} {l:List Rep} {p:Pl} (h0:0≤n) (ha:l.Pairwise (fun r s=>r.time < s.time)) (hp:∀ r∈l,plOf r=p):(rsOf l).susp (relP n l)=[]:=by
 have hd:¬ (rsOf l).Dup:=asc_dup fun i k hi hk _ _=>List.pairwise_iff_getElem.1 ha k i (by omega) hi hk
 rw[List.eq_nil_iff_forall_not_mem]
 intro i hi
 obtain⟨_,_,h3⟩:=Rs.mem_susp.1 hi
 have g:=(rsOf l).gs_is ((rsOf l).nm i)
 have hs:=g.strict hd
 rw[badL_full (fun j hj=>?_)] at h3
 ·cases h3
 ·have h4:=List.pairwise_iff_getElem.1 hs j (j+1) (by omega) hj (by omega)
  have m1:((rsOf l).gs ((rsOf l).nm i))[j] < l.length:=(g.mem.1 (List.getElem_mem (by omega))).1
  have m2:((rsOf l).gs ((rsOf l).nm i))[j+1] < l.length:=(g.mem.1 (List.getElem_mem hj)).1
  generalize ((rsOf l).gs ((rsOf l).nm i))[j]=a at *
  generalize ((rsOf l).gs ((rsOf l).nm i))[j+1]=b at *
  have h5:(l.getD a rep0).time < (l.getD b rep0).time:=h4
  rw[getD_rep m1,getD_rep m2] at h5
  rw[relP_eq m1 m2]
  unfold plB
  rw[decide_eq_true_eq,hp _ (List.getElem_mem m1),hp _ (List.getElem_mem m2),hopN_self]
  have h6:0≤n*(l[b].time-l[a].time):=Int.mul_nonneg h0 (by omega)
  exact⟨h5,by omega⟩
theorem ord_susp {n:Int} {l y:List Rep} {O:List Nat} (hO:O.Perm (List.range l.length)) (hy:y=O.map (fun i=>l.getD i rep0)) (hd:¬ (rsOf l).Dup) :
  (∀ i,i < l.length→(i∈(rsOf y).susp (relP n y)↔O.getD i 0∈(rsOf l).susp (relP n l)))∧((rsOf y).susp (relP n y)).length=((rsOf l).susp (relP n l)).length∧¬ (rsOf y).Dup:=by
 have hl:y.length=l.length:=by rw[hy,List.length_map,ord_len hO]
 have hg:∀ i,i < l.length→y.getD i rep0=l.getD (O.getD i 0) rep0:=fun i hi=>by
  rw[getD_rep (by omega)]
  subst hy
  rw[List.getElem_map,ord_get hO hi]
 exact susp_ord (R:=rsOf l) (R':=rsOf y) hO hl (fun i hi=>congrArg movB (hg i hi)) (fun i hi=>congrArg Rep.name (hg i hi)) (fun i hi=>congrArg Rep.time (hg i hi))
  (fun i k hi hk=>by unfold relP;rw[hg i hi,hg k hk]) (fun Q Q' m h=>chain_congr h) hd
structure KN (l x:List Rep) (k:Nat):Prop where
 len:x.length=l.length
 same:∀ j (h:j < l.length) (h2:j < x.length),x[j].time=l[j].time∧x[j].f=l[j].f∧x[j].a=l[j].a∧x[j].b=l[j].b∧x[j].c=l[j].c∧x[j].rd=l[j].rd
 new:∀ j (h:j < x.length),j < k→(x[j].kind=2∨x[j].kind=3)∧(x[j].name=dStr∨x[j].name=eStr)
def landR:Rep:=⟨1,dStr,5,0,0,0,0,.slice none 0 0⟩
theorem KN.start (l:List Rep):KN l l 0:=⟨rfl,fun _ _ _=>⟨rfl,rfl,rfl,rfl,rfl,rfl⟩,fun _ _ h=>by omega⟩
theorem KN.step {l x:List Rep} {k:Nat} (h:KN l x k) (hk:k < x.length) {kd:Int} {nm:ByteArray} (h1:kd=2∨kd=3) (h2:nm=dStr∨nm=eStr):KN l (x.set k { x[k] with kind:=kd,name:=nm }) (k+1):=by
 refine⟨by rw[List.length_set];exact h.len,fun j hj hj2=>?_,fun j hj hjk=>?_⟩
 ·rw[List.length_set] at hj2
  have hs:=h.same j hj hj2
  by_cases e:k=j
  ·subst e
   rw[List.getElem_set_self]
   exact hs
  ·rw[List.getElem_set_ne e]
   exact hs
 ·rw[List.length_set] at hj
  by_cases e:k=j
  ·subst e
   rw[List.getElem_set_self]
   exact⟨h1,h2⟩
  ·rw[List.getElem_set_ne e]
   exact h.new j hj (by omega)
theorem KN.asc {l x:List Rep} {k:Nat} (h:KN l x k) (ha:l.Pairwise (fun r s=>r.time < s.time)):x.Pairwise (fun r s=>r.time < s.time):=by
 rw[List.pairwise_iff_getElem]
 intro i j hi hj hij
 have e1:=(h.same i (by rw[←h.len];exact hi) hi).1
 have e2:=(h.same j (by rw[←h.len];exact hj) hj).1
 rw[e1,e2]
 exact List.pairwise_iff_getElem.1 ha i j (by rw[←h.len];exact hi) (by rw[←h.len];exact hj) hij
structure OrdX (x X:List Rep):Prop where
 eq:X=x ++ [landR]
 rd:∀ r∈X,RdOk r
 mv:MovV X
 nm:∀ r∈X,r.name.size≤maxLen
 dup:¬ (rsOf X).Dup
 asc:x.Pairwise (fun r s=>r.time < s.time)
 val:∀ r∈x,ValR r
theorem ordX {l x:List Rep} (hok:∀ r∈l,RpOk true r) (ha:l.Pairwise (fun r s=>r.time < s.time)) (h:KN l x l.length):OrdX x (x ++ [landR]):=by
 have hrd:∀ r∈x,RdOk r:=fun r hr=>by
  obtain⟨j,hj,rfl⟩:=List.getElem_of_mem hr
  obtain⟨_,_,_,_,_,e⟩:=h.same j (by rw[←h.len];exact hj) hj
  obtain⟨q,n,c,e2⟩:=(hok _ (List.getElem_mem (by rw[←h.len];exact hj))).rdOk
  exact⟨q,n,c,e.trans e2⟩
 have hv:∀ r∈x,ValR r:=fun r hr=>by
  obtain⟨j,hj,rfl⟩:=List.getElem_of_mem hr
  obtain⟨e0,e1,e2,e3,e4,_⟩:=h.same j (by rw[←h.len];exact hj) hj
  have:=(hok _ (List.getElem_mem (by rw[←h.len];exact hj))).valR
  unfold ValR at this ⊢
  rw[e0,e1,e2,e3,e4]
  exact this
 have hn:∀ r∈x,r.name.size≤maxLen:=fun r hr=>by
  obtain⟨j,hj,rfl⟩:=List.getElem_of_mem hr
  obtain⟨_,e|e⟩:=h.new j hj (by rw[←h.len];exact hj)<;>rw[e]<;>decide
 refine⟨rfl,fun r hr=>?_,fun r hr hm=>?_,fun r hr=>?_,land_dup (h.asc ha) rfl,h.asc ha,hv⟩
 ·rcases List.mem_append.1 hr with h1|h1
  ·exact hrd r h1
  ·rw[List.mem_singleton] at h1;subst h1;exact⟨_,_,_,rfl⟩
 ·rcases List.mem_append.1 hr with h1|h1
  ·exact hv r h1
  ·rw[List.mem_singleton] at h1;subst h1;cases hm
 ·rcases List.mem_append.1 hr with h1|h1
  ·exact hn r h1
  ·rw[List.mem_singleton] at h1;subst h1;decide
theorem OrdX.su {x X:List Rep} (h:OrdX x X) {n:Int} (h0:0≤n) (h1:n≤1000):suE n X=0∧suL n X=(rsOf X).susp (relP n X):=suE_ok ⟨zDt ⟨h0,h1⟩,h.mv⟩ h.dup
structure OrdY (n:Int) (X Y:List Rep) (O:List Nat):Prop where
 len:Y.length=X.length
 rd:∀ r∈Y,RdOk r
 nm:∀ r∈Y,r.name.size≤maxLen
 sE:suE n Y=0
 same:(suL n Y).length=(suL n X).length
 mem:∀ i,i∈suL n Y→i < X.length∧O.getD i 0 < X.length∧O.getD i 0∈suL n X∧(Y.getD i rep0).kind≠1
theorem ordY {n:Int} {x X Y:List Rep} {O:List Nat} (h:OrdX x X) (h0:0≤n) (h1:n≤1000) (hO:O.Perm (List.range X.length)) (hY:Y=O.map (fun i=>X.getD i rep0)):OrdY n X Y O:=by
 have hm:∀ r∈Y,r∈X:=fun r hr=>by
  subst hY
  obtain⟨i,hi,rfl⟩:=List.mem_map.1 hr
  have hi':i < X.length:=List.mem_range.1 (hO.mem_iff.1 hi)
  rw[getD_rep hi']
  exact List.getElem_mem hi'
 obtain⟨a1,a2,a3⟩:=ord_susp (n:=n) hO hY h.dup
 obtain⟨e1,e2⟩:=h.su h0 h1
 obtain⟨f1,f2⟩:=suE_ok (n:=n) (l:=Y) ⟨zDt ⟨h0,h1⟩,fun r hr=>h.mv r (hm r hr)⟩ a3
 have hlen:Y.length=X.length:=by rw[hY,List.length_map,ord_len hO]
 refine⟨hlen,fun r hr=>h.rd r (hm r hr),fun r hr=>h.nm r (hm r hr),f1,by rw[f2,e2,a2],fun i hi=>?_⟩
 rw[f2] at hi
 obtain⟨b1,b2,_⟩:=Rs.mem_susp.1 hi
 have b1':i < Y.length:=b1
 have b2':movB (Y.getD i rep0)=true:=b2
 refine⟨by omega,ord_lt hO (by omega),by rw[e2];exact (a1 i (by omega)).1 hi,fun e=>?_⟩
 unfold movB at b2'
 rw[e] at b2'
 cases b2'
structure PLs (X Y:List Rep) (k:Nat):Prop where
 len:Y.length=X.length
 same:∀ j (h:j < X.length) (h2:j < Y.length),Y[j].kind=X[j].kind∧Y[j].name=X[j].name∧Y[j].time=X[j].time∧Y[j].rd=X[j].rd
 new:∀ j (h:j < Y.length),(j < k∨j=0)→Y[j].f=(X.getD 0 rep0).f∧Y[j].a=(X.getD 0 rep0).a∧Y[j].b=(X.getD 0 rep0).b∧Y[j].c=(X.getD 0 rep0).c
theorem PLs.start (X:List Rep):PLs X X 0:=⟨rfl,fun _ _ _=>⟨rfl,rfl,rfl,rfl⟩,fun j h hj=>by
 obtain rfl:j=0:=by omega
 rw[getD_rep h]
 exact⟨rfl,rfl,rfl,rfl⟩⟩
theorem PLs.step {X Y:List Rep} {k:Nat} (h:PLs X Y k) (hk:k < Y.length):PLs X (Y.set k { Y[k] with f:=(X.getD 0 rep0).f,a:=(X.getD 0 rep0).a,b:=(X.getD 0 rep0).b,c:=(X.getD 0 rep0).c }) (k+1):=by
 refine⟨by rw[List.length_set];exact h.len,fun j hj hj2=>?_,fun j hj hjk=>?_⟩
 ·rw[List.length_set] at hj2
  have hs:=h.same j hj hj2
  by_cases e:k=j
  ·subst e
   rw[List.getElem_set_self]
   exact hs
  ·rw[List.getElem_set_ne e]
   exact hs
 ·rw[List.length_set] at hj
  by_cases e:k=j
  ·subst e
   rw[List.getElem_set_self]
   exact⟨rfl,rfl,rfl,rfl⟩
  ·rw[List.getElem_set_ne e]
   exact h.new j hj (by omega)
theorem PLs.none {x X Y:List Rep} {k:Nat} (h:PLs X Y k) (hX:OrdX x X) (hk:x.length≤k) {n:Int} (h0:0≤n) (h1:n≤1000) :
  suE n (Y.take x.length)=0∧suL n (Y.take x.length)=[]∧(∀ r∈Y.take x.length,r.name.size≤maxLen)∧(Y.take x.length).length=x.length:=by
 have hXl:X.length=x.length+1:=by rw[hX.eq,List.length_append];rfl
 have hl:(Y.take x.length).length=x.length:=by rw[List.length_take,h.len,hXl];omega
 have hg:∀ j (hj:j < x.length) (h2:j < (Y.take x.length).length),∃ r∈X,(Y.take x.length)[j].kind=r.kind∧(Y.take x.length)[j].name=r.name∧(Y.take x.length)[j].time=(x[j]'hj).time∧(Y.take x.length)[j].f=(X.getD 0 rep0).f∧(Y.take x.length)[j].a=(X.getD 0 rep0).a∧(Y.take x.length)[j].b=(X.getD 0 rep0).b∧(Y.take x.length)[j].c=(X.getD 0 rep0).c:=fun j hj h2=>by
  rw[List.getElem_take]
  obtain⟨a1,a2,a3,_⟩:=h.same j (by omega) (by rw[h.len];omega)
  obtain⟨b1,b2,b3,b4⟩:=h.new j (by rw[h.len];omega) (.inl (by omega))
  refine⟨X[j]'(by omega),List.getElem_mem _,a1,a2,?_,b1,b2,b3,b4⟩
  rw[a3]
  have hXe:=hX.eq
  subst hXe
  rw[List.getElem_append_left hj]
 have hasc:(Y.take x.length).Pairwise (fun r s=>r.time < s.time):=by
  rw[List.pairwise_iff_getElem]
  intro i j hi hj hij
  obtain⟨_,_,_,_,e1,_⟩:=hg i (by omega) hi
  obtain⟨_,_,_,_,e2,_⟩:=hg j (by omega) hj
  rw[e1,e2]
  exact List.pairwise_iff_getElem.1 hX.asc i j (by omega) (by omega) hij
 have hd:¬ (rsOf (Y.take x.length)).Dup:=asc_dup fun i k hi hk _ _=>List.pairwise_iff_getElem.1 hasc k i (by omega) hi hk
 have hp:∀ r∈Y.take x.length,plOf r=plOf (X.getD 0 rep0):=fun r hr=>by
  obtain⟨j,hj,rfl⟩:=List.getElem_of_mem hr
  obtain⟨_,_,_,_,_,e1,e2,e3,e4⟩:=hg j (by omega) hj
  unfold plOf
  rw[e1,e2,e3,e4]
 have hv:MovV (Y.take x.length):=fun r hr _=>by
  obtain⟨j,hj,rfl⟩:=List.getElem_of_mem hr
  obtain⟨_,_,_,_,e0,e1,e2,e3,e4⟩:=hg j (by omega) hj
  have h00:0 < x.length:=by omega
  have ht:=(hX.val _ (List.getElem_mem (by omega:j < x.length))).2
  have hv0:=(hX.val _ (List.getElem_mem h00)).1
  have e5:X.getD 0 rep0=x[0]:=by
   rw[getD_rep (by omega)]
   have hXe:=hX.eq
   subst hXe
   rw[List.getElem_append_left h00]
  rw[←e5] at hv0
  unfold ValR
  rw[e0,e1,e2,e3,e4]
  exact⟨hv0,ht⟩
 obtain⟨f1,f2⟩:=suE_ok (n:=n) (l:=Y.take x.length) ⟨zDt ⟨h0,h1⟩,hv⟩ hd
 refine⟨f1,by rw[f2,same_none h0 hasc hp],fun r hr=>?_,hl⟩
 obtain⟨j,hj,rfl⟩:=List.getElem_of_mem hr
 obtain⟨s,hs,_,e,_⟩:=hg j (by omega) hj
 rw[e]
 exact hX.nm s hs
theorem kinN_any (v:Value) (zs:List Int) (x:Int) (w:World) (h:RdI w v zs) (hl:zs.length≤1000000):Calls Tryz.prog 24 #[v,.int .i64 x] w fun e w'=>e=.returned (.bool (decide (x∈zs)))∧w=w':=by
 obtain⟨p,cap,rfl,hcap,hV⟩:=h
 go_enter Tryz.func24,Tryz.ntmps24
 go_wp2
 go_loopw [5] (fun i wr=>∃ k:Nat,k≤zs.length∧i=.int .i64 k∧Hid (∀ j (h:j < zs.length),j < k→zs[j]≠x)∧wr=w) (fun i _=>zs.length-(intOf i).toNat)
 case atStart=>exact⟨0,by omega,rfl,zN fun j _ hj=>by omega,rfl⟩
 case round=>
  obtain⟨k,hk,rfl,HK,rfl⟩:=hrel
  by_cases hlt:k < zs.length
  ·have hdk:decide ((k:Int) < (zs.length:Int))=true:=zDt (by omega)
   obtain⟨b,o,rfl,hbl,hcell⟩:=hV.cell (by omega)
   have ck:=hcell k hlt
   obtain⟨y,hy⟩:∃ y,y=zs[k]:=⟨_,rfl⟩
   rw[←hy] at ck
   have HY:=zN hy
   clear hy hcell
   by_cases hr:y=x
   ·have HN:Hid (decide (x∈zs)=true):=zN (zDt (by rw[←hr,HY.out];exact List.getElem_mem _))
    subst hr
    go_wp2
    go_ret
    rw[HN.out];exact⟨rfl,rfl⟩
   ·have hb:(y == x)=false:=by rw[beq_eq_false_iff_ne];exact hr
    go_wp2
    go_roundw
    case rel=>exact⟨k+1,by omega,by go_num,zN fun j hj hjk=>by
     by_cases h:j=k
     ·subst h;rw[←HY.out];exact hr
     ·exact HK.out j hj (by omega),(by first|rfl|trivial)⟩
    case measure=>simp[intOf];omega
  ·have hdk:decide ((k:Int) < (zs.length:Int))=false:=zDf (by omega)
   have hkl:k=zs.length:=by omega
   have HN:Hid (decide (x∈zs)=false):=zN (zDf fun hx=>by
    obtain⟨j,hj,e⟩:=List.getElem_of_mem hx
    exact HK.out j hj (by omega) e)
   clear hkl
   go_wp2
   go_ret
   rw[HN.out];exact⟨rfl,rfl⟩
end Go.Proofs.YtbomggfklfbnkaaGreatDoor
