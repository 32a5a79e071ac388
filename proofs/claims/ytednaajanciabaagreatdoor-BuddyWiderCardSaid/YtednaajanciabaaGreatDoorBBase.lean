import Derived.Test.YtednaajanciabaaGreatDoorKRpts
import Derived.Test.YtednaajanciabaaGreatDoorFromL
import Derived.Test.YtednaajanciabaaGreatDoorKRegion
import Derived.Deep.AppendSrc
set_option maxRecDepth 100000
set_option maxHeartbeats 8000000
set_option linter.unusedSimpArgs false
set_option linter.unusedVariables false
theorem Go.RX.wp_appS {P:Go.Program} {o:Go.Oper} {a:Go.Act} {w:Go.World} {K:Go.Act→Go.World→Prop} {Q:Go.Exit→Go.Act→Go.World→Prop} {t e:Go.TypeId} {z:Go.Value} {size bytes:Nat} (E:Go.RX.ElemOf P t e z size bytes) (s x:Go.Operand)
  (ho:o.op=.call { callee:=.builtin .append,args:=#[s,x],argTypes:=#[t,t] }) (base:Nat)
  (v:Go.Value) (n:Nat) (xs:List Go.Value) (hown:w.ownsRow base e size v n xs) (hs:a.eval s=v)
  (ad:Go.Addr) (m mc:Nat) (news:List Go.Value) (hx:a.eval x=.slice (some ad) m mc) (hc:news.length=m*size) (hnews:∀ j u,news[j]?=some u→w.cell? (ad.add j)=some u) (h1:∀ u∈news,u.oneCell'=true)
  (hbytes:(n+m)*bytes≤140737488355328) (hn:n+m≤140737488355328) (hbase:base≤w.heap.size)
  (h:∀ v' w',w'.ownsRow base e size v' (n+m) (xs ++ news)→Go.RowKit.Below base w w'→w.grownBy w' v.ownBlock→(v'.ownBlock=v.ownBlock∨v'.ownBlock=some w.heap.size)→K (a.put o.dst v') w'):o.wp P a w K Q:=by
 obtain⟨i0,hi,hz,hsize,hby⟩:=Go.info_parts E.hi
 subst hs
 obtain⟨v',w',hrun,h2,h3,_,h5⟩:=Go.run_append_own_at (P:=P) w base t o.type e i0 z size bytes E.ht hi hz hsize hby E.hz E.pos _ n xs hown ad m mc news hc hnews h1 (by unfold Go.maxLen;omega) hbytes hbase
 unfold Go.Oper.wp Go.execOp
 simp only[ho,Go.resolve,Go.invoke,Go.builtin,Go.Sem.run_bind,Go.Sem.run_pure,Go.Result.andThen_ok,List.map_toArray,List.map_cons,List.map_nil,hx,hrun]
 exact h v' w' h2 ((Go.RowKit.Below.refl _ _).grown h3 hbase (fun k hk=>(hown.lt k hk).1)) h3 h5
theorem Go.RX.run_appendZ {P:Go.Program} (w:Go.World) (t ty e:Go.TypeId) (i:Go.TypeInfo) (ht:P.underlying t=some (.slice e)) (hi:P.info? e=some i) (p q:Option Go.Addr) (n cap c:Nat) (base:Nat) (size:Nat) (xs:List Go.Value) (hown:w.ownsRow base e size (.slice p n cap) n xs) :
  (Go.Builtin.append_ #[t,t] ty #[.slice p n cap,.slice q 0 c]).run P w=.ok (.slice p n cap) w:=by
 have hs:Go.Src P i.size t (.slice q 0 c) 0 [] w:=by
  cases q with
  |none=>exact Go.Src.ofNil w ht c
  |some a=>exact Go.Src.ofSlice w ht a 0 c [] (by simp) (by simp) (by simp)
 have hnc:n≤cap:=by
  rcases hown.2 with ⟨h1,h2⟩|⟨g,cap',cur,h1,_,_,h4,_⟩
  ·simp at h1;omega
  ·simp at h1;omega
 cases p with
 |none=>simp[Go.Builtin.append_,Go.run_underlying ht,Go.sizeOf,Go.typeInfo,hi,hs.len,hs.cells,hnc]
 |some a=>simp[Go.Builtin.append_,Go.run_underlying ht,Go.sizeOf,Go.typeInfo,hi,hs.len,hs.cells,hnc,Go.storeCells]
namespace Go.Proofs.YtednaajanciabaaGreatDoor
open Go.RowKit Go.Grid
def rep0:Rep:=⟨0,⟨#[]⟩,0,0,0,0,0,.slice none 0 0⟩
theorem QRow.nil (w:World) (base:Nat):QRow w base (.slice none 0 0) []:=World.ownsRow_nil _ _ _ _
theorem FRow.oth {w:World} {b N D i:Nat} {f:Nat→Int} {v:Value} (h:FRow w b N f) (hne:b≠D):FRow (w.setCell ⟨D,i,none⟩ v) b N f:=h.kept (Below.heap_setCell _ _ _ b hne)
def natI (L:List Nat):List Int:=L.map (fun i:Nat=>(i:Int))
theorem natI_len (L:List Nat):(natI L).length=L.length:=by simp[natI]
theorem QRow.rd {w:World} {base:Nat} {v:Value} {L:List Nat} (h:QRow w base v L):RdI w v (natI L):=by
 rcases Nat.eq_zero_or_pos L.length with h0|h0
 ·obtain⟨p,cap,rfl,hc⟩:=own_slice h
  obtain rfl:=List.length_eq_zero_iff.1 h0
  exact⟨p,cap,rfl,hc,0,0,fun h=>absurd h (by simp[natI]),fun j hj=>absurd hj (by simp[natI])⟩
 ·obtain⟨g,cap,rfl,hc,_,_,hcell⟩:=own_cells h h0
  refine⟨_,cap,by rw[natI_len],by rw[natI_len];exact hc,g,0,fun _=>rfl,fun j hj=>?_⟩
  rw[natI_len] at hj
  rw[Nat.zero_add,hcell j hj]
  unfold qV natI
  rw[List.getElem?_map,List.getElem?_eq_getElem hj]
  show some (Value.int .i64 (L[j]:Int))=some (Value.int .i64 ((L.map (fun i:Nat=>(i:Int)))[j]'(by simpa using hj)))
  rw[List.getElem_map]
theorem pick_any (w:World) (g b n i N:Nat) (zs:List Int) (m cap:Nat) (hm:zs.length=m) (h0:0 < m) (h1:m≤1000) (h:SrcAt w g b n i) (hz:∀ j (h:j < zs.length),w.cell? ⟨N,j,none⟩=some (.int .i64 zs[j])) (hN:N≠g) :
  Calls Tryz.prog 34 #[.pointer (some ⟨g,0,none⟩),.slice (some ⟨N,0,none⟩) m cap] w fun e w'=>∃ x:Int,e=.returned (.int .i64 x)∧x∈zs∧w.grownBy w' (some g)∧∃ j,SrcAt w' g b n j:=by
 go_enter Tryz.func34,Tryz.ntmps34
 go_wp2_with fail
 refine (srcN_any w g b n i m h (by omega) (by omega)).mono ?_
 rintro e w1 ⟨x,rfl,hx0,hx1,hg1,hS⟩
 obtain⟨k,rfl⟩:=Int.eq_ofNat_of_zero_le hx0
 have hk:k < zs.length:=by omega
 have hS1:=zN hS
 have hG1:=zN hg1
 have kk:=hg1.cell (hz k hk) (by simpa using hN)
 have HX:=zN (List.getElem_mem hk)
 generalize zs[k]=z at kk HX
 clear hS hg1 h hz hm hk
 go_wp2
 go_ret
 exact⟨z,rfl,HX.out,hG1.out,hS1.out⟩
theorem qV_one (D:List Nat):∀ u∈qV D,u.oneCell'=true:=by
 intro u hu
 unfold qV at hu
 rw[List.mem_map] at hu
 obtain⟨x,_,rfl⟩:=hu
 rfl
theorem qV_len (D:List Nat):(qV D).length=D.length:=by simp[qV]
theorem qV_drop (D:List Nat) (k:Nat):(qV D).drop k=qV (D.drop k):=by simp[qV]
theorem qV_take (D:List Nat) (k:Nat):(qV D).take k=qV (D.take k):=by simp[qV]
theorem ins_perm {D:List Nat} {i k:Nat} (h:D.Perm (List.range i)):(D.take k ++ ([i] ++ D.drop k)).Perm (List.range (i+1)):=by
 rw[List.range_succ]
 have h1:(D.take k ++ ([i] ++ D.drop k)).Perm (i :: (D.take k ++ D.drop k)):=List.perm_middle
 rw[List.take_append_drop] at h1
 exact h1.trans ((List.Perm.cons i h).trans (List.perm_append_singleton i (List.range i)).symm)
theorem QRow.ins {w:World} {base base' k i:Nat} {v:Value} {D:List Nat} (hk:k≤D.length) (h:w.ownsRow base' 3 1 v (k+(1+(D.length-k))) (qV (D.take k) ++ (#[Value.int .i64 (i:Int)].toList ++ qV (D.drop k)))) (hb:base≤base'):QRow w base v (D.take k ++ ([i] ++ D.drop k)):=by
 unfold QRow
 have e:(D.take k ++ ([i] ++ D.drop k)).length=k+(1+(D.length-k)):=by simp;omega
 rw[e]
 have e2:qV (D.take k ++ ([i] ++ D.drop k))=qV (D.take k) ++ (#[Value.int .i64 (i:Int)].toList ++ qV (D.drop k)):=by simp[qV]
 rw[e2]
 exact own_mono h hb
theorem order_any (w:World) (g b n j:Nat) (m:Nat) (hm:m≤100) (h:SrcAt w g b n j) :
  Calls Tryz.prog 18 #[.pointer (some ⟨g,0,none⟩),.int .i64 (m:Int)] w fun e w'=>∃ v O,e=.returned v∧O.Perm (List.range m)∧QRow w' w.heap.size v O∧w.grownBy w' (some g)∧∃ j,SrcAt w' g b n j:=by
 have hgl:=h.lt
 have HS0:=zN h
 clear h
 go_enter Tryz.func18,Tryz.ntmps18
 go_wp2
 go_loopw [5,6] (fun v5 v6 wr=>∃ (i:Nat) (D:List Nat),i≤m∧v6=.int .i64 (i:Int)∧D.Perm (List.range i)∧QRow wr w.heap.size v5 D∧w.grownBy wr (some g)∧∃ j,SrcAt wr g b n j) (fun _ v6 _=>m-(intOf v6).toNat)
 case atStart=>exact⟨0,[],by omega,rfl,List.Perm.refl _,World.ownsRow_nil _ _ _ _,World.grownBy.refl _ _,_,HS0.out⟩
 case round=>
  obtain⟨i,D,him,rfl,hP,hq,hg,j1,hs⟩:=hrel
  obtain⟨A,cap,rfl,hcap⟩:=own_slice hq
  have hDl:D.length=i:=by rw[hP.length_eq,List.length_range]
  by_cases hi:i < m
  ·have hdk:decide ((i:Int) < (m:Int))=true:=zDt (by omega)
   have HP:=zN hP
   have HG:=zN hg
   have HQ:=zN hq
   have hD100:D.length≤100:=by omega
   have HDL:=zN hDl
   have hsz:=hg.size
   clear hP hg hq hDl
   go_wp2_with fail
   refine (srcN_any wr g b n j1 ((D.length:Int)+1) hs (by omega) (by omega)).mono ?_
   rintro e w1 ⟨x,rfl,hx0,hx1,hg1,j2,hs2⟩
   obtain⟨k,rfl⟩:=Int.eq_ofNat_of_zero_le hx0
   have hkD:k≤D.length:=by omega
   have hq1:=own_gr HQ.out hg1 hgl
   have HG1:=zN (HG.out.trans hg1)
   have hsz1:=hg1.size
   have HS:=zN hs2
   clear hg1 hs hs2 HQ HG
   have hb1:Below w1.heap.size w1 (w1.alloc (.cells #[.int .i64 (i:Int)] 3)):=(zBr _ _).alloc (Nat.le_refl _) _
   have hkk:(0:Int)≤(k:Int):=by omega
   cases A with
   |none=>
    have hD0:D=[]:=by
     rcases Nat.eq_zero_or_pos D.length with h0|h0
     ·exact List.eq_nil_of_length_eq_zero h0
     ·obtain⟨g',c',e,_⟩:=hq1.form h0
      cases e
    subst hD0
    have hk0:k=0:=by simpa using hkD
    subst hk0
    simp only[List.length_nil] at *
    have hown1:(w1.alloc (.cells #[.int .i64 (i:Int)] 3)).ownsRow w1.heap.size 3 1 (.slice (some ⟨w1.heap.size,0,none⟩) 1 1) 1 #[Value.int .i64 (i:Int)].toList:=RX.own_new (heap_alloc_new _ _) rfl
    have hb2:=hb1
    go_wp2_with (refine RX.wpl_apg (by rfl) elIn _ _ (by rfl) none 0 [] (by rfl) (fun _=>rfl) rfl (RX.SrcAt.none _ _ _) w1.heap.size 1 _ _ (by rfl) hown1 (by omega) (by intro u hu;simp at hu;subst hu;rfl) (by omega) (by omega) ?_;intro v3 w3 hown3 hg3)
    have hb3:Below w1.heap.size w1 w3:=hb2.grown hg3 hb2.size (fun k' hk'=>by cases hk')
    have HQ3:Hid (QRow w3 w.heap.size v3 (([]:List Nat).take 0 ++ ([i] ++ ([]:List Nat).drop 0))):=zN (QRow.ins (D:=([]:List Nat)) (k:=0) hkD (by simpa[qV] using hown3) (by omega))
    have HG3:Hid (w.grownBy w3 (some g)):=zN (HG1.out.trans (grw_below hb3 _))
    have HS3:=zN (HS.out.below hb3)
    clear hown1 hown3 hg3 hb1 hb2 hb3 hq1
    go_wp2
    go_roundw
    case rel=>exact⟨i+1,_,by omega,by go_num,ins_perm HP.out,HQ3.out,HG3.out,j2,HS3.out⟩
    case measure=>simp[intOf]<;>omega
   |some ad=>
    obtain⟨b',rfl⟩:∃ b',ad=⟨b',0,none⟩:=by
     rcases hq1.2 with ⟨e,_⟩|⟨g',c',cur,e,_⟩
     ·cases e
     ·injection e with e
      injection e with e
      exact⟨g',e⟩
    have hq1a:=World.ownsRow.alloc hq1 (.cells #[.int .i64 (i:Int)] 3)
    by_cases hkl:cap=k
    ·have hDk:D.length=k:=by omega
     have hsrc:RX.SrcAt (w1.alloc (.cells #[.int .i64 (i:Int)] 3)) (some ⟨b',0,none⟩) (D.length-k) (qV (D.drop k)):=by rw[hDk,Nat.sub_self];exact RX.SrcAt.none _ _ _
     clear hDk
     subst hkl
     have hz:D.length-cap=0:=by omega
     rw[hz] at hsrc
     have HZ:=zN hz
     clear hz
     go_wp2_with (first
      |(refine RX.wpl_apr (by rfl) elIn _ _ (by rfl) w1.heap.size #[.int .i64 (i:Int)] (by rfl) (heap_alloc_new _ _) (by rfl) (some ⟨b',0,none⟩) 0 _ (qV (D.drop cap)) (by rfl) (by rw[qV_len,List.length_drop,Nat.mul_one];exact HZ.out) hsrc (qV_one _) (by omega) (by omega) ?_;intro v2 w2 hown1 hg2 hat2;have hb2:Below w1.heap.size w1 w2:=hb1.grown hg2 (by simp) (fun k' hk'=>by injection hk' with hk';omega);have hs2:=(RX.SrcAt.of_own (own_bl hq1 hb2)).take (k:=cap) (size:=1) (by omega);rw[Nat.mul_one,qV_take] at hs2;clear hg2 hat2;have hb2s:=hb2.size)
      |(refine RX.wpl_apg (by rfl) elIn _ _ (by rfl) (some ⟨b',0,none⟩) cap (qV (D.take cap)) (by rfl) (fun e=>by cases e) (by rw[qV_len,List.length_take,Nat.mul_one];omega) hs2 w1.heap.size (1+0) v2 _ (by rfl) hown1 (by omega) (by intro u hu;rcases List.mem_append.1 hu with hu|hu;(simp at hu;subst hu;rfl);exact qV_one _ u hu) (by omega) (by omega) ?_;intro v3 w3 hown3 hg3))
     have hb3:Below w1.heap.size w1 w3:=hb2.grown hg3 hb2.size (fun k' hk'=>by cases hk')
     have HQ3:Hid (QRow w3 w.heap.size v3 (D.take cap ++ ([i] ++ D.drop cap))):=zN (QRow.ins (D:=D) (k:=cap) hkD (by rw[HZ.out];exact hown3) (by omega))
     have HG3:Hid (w.grownBy w3 (some g)):=zN (HG1.out.trans (grw_below hb3 _))
     have HS3:=zN (HS.out.below hb3)
     clear hown1 hown3 hg3 hb1 hb2 hb3 hq1
     go_wp2
     go_roundw
     case rel=>exact⟨i+1,_,by omega,by go_num,ins_perm HP.out,HQ3.out,HG3.out,j2,HS3.out⟩
     case measure=>simp[intOf]<;>omega
    ·have hsrc:RX.SrcAt (w1.alloc (.cells #[.int .i64 (i:Int)] 3)) (some ⟨b',k,none⟩) (D.length-k) (qV (D.drop k)):=by
      have h9:=(RX.SrcAt.of_own hq1a).cut (k:=k) (cap:=cap) (size:=1) (by omega) hcap
      rw[if_neg hkl,Nat.mul_one,qV_drop] at h9
      simpa[Addr.add_lit] using h9
     have hkl2:¬ k=cap:=fun e=>hkl e.symm
     go_wp2_with (first
      |(refine RX.wpl_apr (by rfl) elIn _ _ (by rfl) w1.heap.size #[.int .i64 (i:Int)] (by rfl) (heap_alloc_new _ _) (by rfl) (some ⟨b',k,none⟩) (D.length-k) _ (qV (D.drop k)) (by rfl) (by rw[qV_len,List.length_drop,Nat.mul_one]) hsrc (qV_one _) (by omega) (by omega) ?_;intro v2 w2 hown1 hg2 hat2;have hb2:Below w1.heap.size w1 w2:=hb1.grown hg2 (by simp) (fun k' hk'=>by injection hk' with hk';omega);have hs2:=(RX.SrcAt.of_own (own_bl hq1 hb2)).take (k:=k) (size:=1) (by omega);rw[Nat.mul_one,qV_take] at hs2;clear hg2 hat2;have hb2s:=hb2.size)
      |(refine RX.wpl_apg (by rfl) elIn _ _ (by rfl) (some ⟨b',0,none⟩) k (qV (D.take k)) (by rfl) (fun e=>by cases e) (by rw[qV_len,List.length_take,Nat.mul_one];omega) hs2 w1.heap.size (1+(D.length-k)) v2 _ (by rfl) hown1 (by omega) (by intro u hu;rcases List.mem_append.1 hu with hu|hu;(simp at hu;subst hu;rfl);exact qV_one _ u hu) (by omega) (by omega) ?_;intro v3 w3 hown3 hg3))
     have hb3:Below w1.heap.size w1 w3:=hb2.grown hg3 hb2.size (fun k' hk'=>by cases hk')
     have HQ3:Hid (QRow w3 w.heap.size v3 (D.take k ++ ([i] ++ D.drop k))):=zN (QRow.ins (D:=D) (k:=k) hkD hown3 (by omega))
     have HG3:Hid (w.grownBy w3 (some g)):=zN (HG1.out.trans (grw_below hb3 _))
     have HS3:=zN (HS.out.below hb3)
     clear hown1 hown3 hg3 hb1 hb2 hb3 hq1
     go_wp2
     go_roundw
     case rel=>exact⟨i+1,_,by omega,by go_num,ins_perm HP.out,HQ3.out,HG3.out,j2,HS3.out⟩
     case measure=>simp[intOf]<;>omega
  ·have hdk:decide ((i:Int) < (m:Int))=false:=zDf (by omega)
   have him':i=m:=by omega
   have HF:=zN (And.intro (him' ▸ hP) (And.intro hq (And.intro hg hs)))
   clear hP hq hg hs him'
   go_wp2
   go_ret
   exact⟨_,D,rfl,HF.out.1,HF.out.2.1,HF.out.2.2.1,j1,HF.out.2.2.2⟩
theorem ord_len {O:List Nat} {n:Nat} (hO:O.Perm (List.range n)):O.length=n:=by rw[hO.length_eq,List.length_range]
theorem ord_get {O:List Nat} {n i:Nat} (hO:O.Perm (List.range n)) (h:i < n):O.getD i 0=O[i]'(by rw[ord_len hO];exact h):=by
 rw[List.getD_eq_getElem?_getD,List.getElem?_eq_getElem (by rw[ord_len hO];exact h)];rfl
theorem ord_lt {O:List Nat} {n i:Nat} (hO:O.Perm (List.range n)) (h:i < n):O.getD i 0 < n:=by
 rw[ord_get hO h]
 exact List.mem_range.1 (hO.mem_iff.1 (List.getElem_mem _))
theorem ord_inj {O:List Nat} {n i k:Nat} (hO:O.Perm (List.range n)) (hi:i < n) (hk:k < n) (h:O.getD i 0=O.getD k 0):i=k:=by
 rw[ord_get hO hi,ord_get hO hk] at h
 have hn:O.Nodup:=hO.nodup_iff.2 List.nodup_range
 rcases Nat.lt_trichotomy i k with h1|h1|h1
 ·exact absurd h (List.pairwise_iff_getElem.1 hn i k _ _ h1)
 ·exact h1
 ·exact absurd h.symm (List.pairwise_iff_getElem.1 hn k i _ _ h1)
theorem ord_sur {O:List Nat} {n j:Nat} (hO:O.Perm (List.range n)) (h:j < n):∃ i,i < n∧O.getD i 0=j:=by
 have hm:j∈O:=hO.mem_iff.2 (List.mem_range.2 h)
 obtain⟨i,hi,e⟩:=List.getElem_of_mem hm
 have hi':i < n:=by rw[←ord_len hO];exact hi
 exact⟨i,hi',by rw[ord_get hO hi'];exact e⟩
theorem VecR.news {w:World} {p:Option Addr} {L:List Rep} {m:Nat} (h:VecR w p L) (hm:L.length=m):0 < m→∃ ad,p=some ad∧∀ j u,(L.flatMap rpc)[j]?=some u→w.cell? (ad.add j)=some u:=by
 intro h0
 obtain⟨b,o,h1,h2⟩:=h
 refine⟨_,h1 (by omega),fun j u hj=>?_⟩
 have hlt:j < L.length*8:=by
  rw[←rps_len]
  exact (List.getElem?_eq_some_iff.1 hj).1
 have e:j=j / 8*8+j % 8:=by omega
 have hk:j / 8 < L.length:=by omega
 have h8:j % 8 < 8:=by omega
 rw[e,rps_get L _ hk _ h8] at hj
 rw[Addr.add_lit,e]
 have hr:=h2 _ hk
 generalize j / 8=k at *
 generalize j % 8=c at *
 rw[←zQ]
 match c,h8 with
 |0,_=>rw[←hj];exact hr.c0
 |1,_=>rw[←hj];exact hr.c1
 |2,_=>rw[←hj];exact hr.c2
 |3,_=>rw[←hj];exact hr.c3
 |4,_=>rw[←hj];exact hr.c4
 |5,_=>rw[←hj];exact hr.c5
 |6,_=>rw[←hj];exact hr.c6
 |7,_=>rw[←hj];exact hr.c7
theorem rpc_one {L:List Rep} (h:∀ r∈L,RdOk r):∀ u∈L.flatMap rpc,u.oneCell'=true:=by
 intro u hu
 rw[List.mem_flatMap] at hu
 obtain⟨r,hr,hu⟩:=hu
 obtain⟨q,m,c,e⟩:=h r hr
 simp only[rpc,List.mem_cons,List.not_mem_nil,or_false] at hu
 rcases hu with rfl|rfl|rfl|rfl|rfl|rfl|rfl|rfl<;>first|rfl|(rw[e];rfl)
theorem own_empty (w:World) (e:TypeId) (size:Nat):(w.alloc (.cells #[] e)).ownsRow w.heap.size e size (.slice (some ⟨w.heap.size,0,none⟩) 0 0) 0 []:=
 ⟨by simp,.inr ⟨w.heap.size,0,#[],rfl,Nat.le_refl _,heap_alloc_new _ _,Nat.le_refl _,by simp,by simp,by simp⟩⟩
theorem own_set {w:World} {base b n cap size:Nat} {e:TypeId} {xs:List Value} (h:w.ownsRow base e size (.slice (some ⟨b,0,none⟩) n cap) n xs) (k:Nat) (u:Value) (hk:k < n*size):(w.setCell ⟨b,k,none⟩ u).ownsRow base e size (.slice (some ⟨b,0,none⟩) n cap) n (xs.set k u):=by
 refine⟨by rw[List.length_set];exact h.1,?_⟩
 rcases h.2 with ⟨h1,_⟩|⟨g,cap',cur,h1,h2,h3,h4,h5,h6,h7⟩
 ·cases h1
 ·injection h1 with e1 _ e2
  injection e1 with e1
  injection e1 with e1
  subst e1 e2
  refine .inr ⟨b,cap,cur.setIfInBounds k u,rfl,h2,?_,h4,h5,by simpa using h6,?_⟩
  ·simp[World.setCell,Array.getElem?_modify,h3]
  ·rw[←h7,Array.toList_setIfInBounds,List.take_set]
theorem rps_set {u:Value} {c:Nat} {r':Rep} (hc:c < 8):∀ (L:List Rep) (i:Nat) (hi:i < L.length),rpc r'=(rpc L[i]).set c u→(L.flatMap rpc).set (i*8+c) u=(L.set i r').flatMap rpc
 |[],i,hi,_=>absurd hi (by simp)
 |p :: L,0,_,h=>by
  have h':rpc r'=(rpc p).set c u:=h
  rw[List.set_cons_zero,List.flatMap_cons,List.flatMap_cons,h',List.set_append_left _ _ (by simp[rpc];omega),Nat.zero_mul,Nat.zero_add]
 |p :: L,i+1,hi,h=>by
  rw[List.set_cons_succ,List.flatMap_cons,List.flatMap_cons,←rps_set hc L i (by simpa using hi) h,List.set_append_right _ _ (by simp[rpc];omega)]
  congr 2
  simp[rpc];omega
theorem RepRow.put {w:World} {base b n cap:Nat} {L:List Rep} (h:RepRow w base (.slice (some ⟨b,0,none⟩) n cap) L) (hn:L.length=n) {i c:Nat} {u:Value} {r':Rep} (hi:i < L.length) (hc:c < 8) (hr:rpc r'=(rpc L[i]).set c u):RepRow (w.setCell ⟨b,i*8+c,none⟩ u) base (.slice (some ⟨b,0,none⟩) n cap) (L.set i r'):=by
 unfold RepRow at h ⊢
 subst hn
 rw[List.length_set,←rps_set hc L i hi hr]
 exact own_set h _ u (by omega)
theorem RepRow.cell8 {w:World} {base b n cap:Nat} {L:List Rep} (h:RepRow w base (.slice (some ⟨b,0,none⟩) n cap) L) {i c:Nat} (hi:i < L.length) (hc:c < 8) {u:Value} (hu:(rpc L[i])[c]?=some u):w.cell? ⟨b,i*8+c,none⟩=some u:=by
 have:=World.ownsRow.cells h (g:=b) rfl (i*8+c) u (by rw[rps_get L i hi c hc];exact hu)
 rwa[Addr.add_lit,Nat.zero_add] at this
theorem RepRow.soft8 {w:World} {base b n cap:Nat} {L:List Rep} (h:RepRow w base (.slice (some ⟨b,0,none⟩) n cap) L) (j:Nat):w.frozen? ⟨b,j,none⟩=false:=by
 rcases h.2 with ⟨h1,_⟩|⟨g,cap',cur,h1,_,h3,_⟩
 ·cases h1
 ·injection h1 with e
  injection e with e
  injection e with e
  subst e
  simp[World.frozen?,h3]
theorem VecR.gr {w w':World} {p:Option Addr} {L:List Rep} {g:Nat} (h:VecR w p L) (hg:w.grownBy w' (some g)) (hne:∀ a,p=some a→0 < L.length→a.block≠g):VecR w' p L:=by
 rcases Nat.eq_zero_or_pos L.length with h0|h0
 ·obtain rfl:=List.length_eq_zero_iff.1 h0
  exact VecR.nil _ _
 ·obtain⟨b,o,h1,h2⟩:=h
  have hb:=hne _ (h1 h0) h0
  exact⟨b,o,h1,fun k hk=>(h2 k hk).of_block (hg.block b (h2 k hk).lt (fun e=>hb (by injection e)))⟩
def BRow (w:World) (b M:Nat) (f:Nat→Bool):Prop:=w.rowIs b 4 M (fun j=>.bool (f j))
theorem BRow.set {w:World} {b M:Nat} {f:Nat→Bool} (h:BRow w b M f) (i:Nat) (x:Bool):BRow (w.setCell ⟨b,i,none⟩ (.bool x)) b M (fun j=>if j=i then x else f j):=
 (World.rowIs.set h i (.bool x)).congr (fun j _=>by by_cases e:j=i<;>simp[e])
theorem BRow.congr {w:World} {b M:Nat} {f g:Nat→Bool} (h:BRow w b M f) (e:∀ j,j < M→f j=g j):BRow w b M g:=World.rowIs.congr h (fun j hj=>by rw[e j hj])
theorem BRow.of_block {w w':World} {b M:Nat} {f:Nat→Bool} (h:BRow w b M f) (e:w'.heap[b]?=w.heap[b]?):BRow w' b M f:=World.rowIs.of_block h e
theorem BRow.cell {w:World} {b M:Nat} {f:Nat→Bool} (h:BRow w b M f) {i:Nat} (hi:i < M):w.cell? ⟨b,i,none⟩=some (.bool (f i)):=World.rowIs.cell h hi
theorem BRow.lt {w:World} {b M:Nat} {f:Nat→Bool} (h:BRow w b M f):b < w.heap.size:=World.rowIs.lt h
theorem BRow.below {w w':World} {b M:Nat} {f:Nat→Bool} (h:BRow w b M f) (hb:Below w.heap.size w w'):BRow w' b M f:=h.of_block (hb.block _ h.lt)
theorem ba_beq (a b:ByteArray):(a == b)=true↔a=b:=by
 obtain⟨a⟩:=a
 obtain⟨b⟩:=b
 rw[ByteArray.mk.injEq]
 exact (beq_iff_eq (a:=a) (b:=b))
theorem str_ne {a b:ByteArray} (h:a≠b):(a == b)=false∧(a.toList == b.toList)=false:=by
 constructor
 ·rw[Bool.eq_false_iff]
  exact fun e=>h ((ba_beq a b).1 e)
 ·rw[beq_eq_false_iff_ne,ne_eq,ByteArray.toList_eq,ByteArray.toList_eq]
  exact fun e=>h (by
   obtain⟨x⟩:=a
   obtain⟨y⟩:=b
   have e2:x=y:=by simpa using e
   rw[e2])
theorem str_eq {a b:ByteArray} (h:a=b):(a == b)=true∧(a.toList == b.toList)=true:=by
 subst h
 exact⟨(ba_beq a a).2 rfl,by simp⟩
def NRow (w:World) (b M:Nat) (f:Nat→Int):Prop:=w.rowIs b 3 M (fun j=>.int .i64 (f j))
theorem NRow.set {w:World} {b M:Nat} {f:Nat→Int} (h:NRow w b M f) (i:Nat) (x:Int):NRow (w.setCell ⟨b,i,none⟩ (.int .i64 x)) b M (fun j=>if j=i then x else f j):=
 (World.rowIs.set h i (.int .i64 x)).congr (fun j _=>by by_cases e:j=i<;>simp[e])
theorem NRow.congr {w:World} {b M:Nat} {f g:Nat→Int} (h:NRow w b M f) (e:∀ j,j < M→f j=g j):NRow w b M g:=World.rowIs.congr h (fun j hj=>by rw[e j hj])
theorem NRow.of_block {w w':World} {b M:Nat} {f:Nat→Int} (h:NRow w b M f) (e:w'.heap[b]?=w.heap[b]?):NRow w' b M f:=World.rowIs.of_block h e
theorem NRow.cell {w:World} {b M:Nat} {f:Nat→Int} (h:NRow w b M f) {i:Nat} (hi:i < M):w.cell? ⟨b,i,none⟩=some (.int .i64 (f i)):=World.rowIs.cell h hi
def rdLen (r:Rep):Nat:=match r.rd with
 |.slice _ n _=>n
 |_=>0
def smallR (r:Rep):Bool:=decide (r.name.size≤40) && decide (rdLen r≤40)
def smallB (n:Nat) (l:List Rep):Bool:=decide (l.length≤n) && l.all smallR
end Go.Proofs.YtednaajanciabaaGreatDoor
