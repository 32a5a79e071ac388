import Derived.Test.YtednaajanciabaaGreatDoorKRpts
import Derived.Test.YtednaajanciabaaGreatDoorFromL
import Derived.Test.YtednaajanciabaaGreatDoorKRegion
import Derived.Deep.AppendSrc
set_option maxRecDepth 100000
set_option maxHeartbeats 8000000
set_option linter.unusedSimpArgs false
set_option linter.unusedVariables false
theorem Go.RX.wp_appS {P:Go.Program} {o:Go.Oper} {a:Go.Act} {w:Go.World} {K:Go.Act→Go.World→Prop} {Q:Go.Exit→Go.Act→Go.World→Prop} {t e:Go.TypeId} {z:Go.Value} {size bytes:Nat} (E:Go.RX.ElemOf P t e z size bytes) (s x:Go.Operand)
  (ho:o.op=.call { callee:=.builtin .append,args:=#[s,x],argTypes:=#[t,t] }) (base:Nat)
  (v:Go.Value) (n:Nat) (xs:List Go.Value) (hown:w.ownsRow base e size v n xs) (hs:a.eval s=v)
  (ad:Go.Addr) (m mc:Nat) (news:List Go.Value) (hx:a.eval x=.slice (some ad) m mc) (hc:news.length=m*size) (hnews:∀ j u,news[j]?=some u→w.cell? (ad.add j)=some u) (h1:∀ u∈news,u.oneCell'=true)
  (hbytes:(n+m)*bytes≤140737488355328) (hn:n+m≤140737488355328) (hbase:base≤w.heap.size)
  (h:∀ v' w',w'.ownsRow base e size v' (n+m) (xs ++ news)→Go.RowKit.Below base w w'→w.grownBy w' v.ownBlock→(v'.ownBlock=v.ownBlock∨v'.ownBlock=some w.heap.size)→K (a.put o.dst v') w'):o.wp P a w K Q:=by
 obtain⟨i0,hi,hz,hsize,hby⟩:=Go.info_parts E.hi
 subst hs
 obtain⟨v',w',hrun,h2,h3,_,h5⟩:=Go.run_append_own_at (P:=P) w base t o.type e i0 z size bytes E.ht hi hz hsize hby E.hz E.pos _ n xs hown ad m mc news hc hnews h1 (by unfold Go.maxLen;omega) hbytes hbase
 unfold Go.Oper.wp Go.execOp
 simp only[ho,Go.resolve,Go.invoke,Go.builtin,Go.Sem.run_bind,Go.Sem.run_pure,Go.Result.andThen_ok,List.map_toArray,List.map_cons,List.map_nil,hx,hrun]
 exact h v' w' h2 ((Go.RowKit.Below.refl _ _).grown h3 hbase (fun k hk=>(hown.lt k hk).1)) h3 h5
theorem Go.RX.wpl_appS {P:Go.Program} {ops:Array Go.Oper} {rest:List Go.Oper} {o:Go.Oper} {a:Go.Act} {w:Go.World} {Q:Go.Exit→Go.Act→Go.World→Prop} {t e:Go.TypeId} {z:Go.Value} {size bytes:Nat} (hgd:o.guard=none) (E:Go.RX.ElemOf P t e z size bytes) (s x:Go.Operand)
  (ho:o.op=.call { callee:=.builtin .append,args:=#[s,x],argTypes:=#[t,t] }) (base:Nat)
  (v:Go.Value) (n:Nat) (xs:List Go.Value) (hown:w.ownsRow base e size v n xs) (hs:a.eval s=v)
  (ad:Go.Addr) (m mc:Nat) (news:List Go.Value) (hx:a.eval x=.slice (some ad) m mc) (hc:news.length=m*size) (hnews:∀ j u,news[j]?=some u→w.cell? (ad.add j)=some u) (h1:∀ u∈news,u.oneCell'=true)
  (hbytes:(n+m)*bytes≤140737488355328) (hn:n+m≤140737488355328) (hbase:base≤w.heap.size)
  (h:∀ v' w',w'.ownsRow base e size v' (n+m) (xs ++ news)→Go.RowKit.Below base w w'→w.grownBy w' v.ownBlock→(v'.ownBlock=v.ownBlock∨v'.ownBlock=some w.heap.size)→Go.wpList P ops Q rest (a.put o.dst v') w'):Go.wpList P ops Q (o :: rest) a w:=by
 refine Go.wpList_plain hgd fun K hK=>?_
 exact Go.RX.wp_appS E s x ho base v n xs hown hs ad m mc news hx hc hnews h1 hbytes hn hbase (fun v' w' a b c d=>hK _ _ (h v' w' a b c d))
theorem Go.RX.run_appendZ {P:Go.Program} (w:Go.World) (t ty e:Go.TypeId) (i:Go.TypeInfo) (ht:P.underlying t=some (.slice e)) (hi:P.info? e=some i) (p q:Option Go.Addr) (n cap c:Nat) (base:Nat) (size:Nat) (xs:List Go.Value) (hown:w.ownsRow base e size (.slice p n cap) n xs) :
  (Go.Builtin.append_ #[t,t] ty #[.slice p n cap,.slice q 0 c]).run P w=.ok (.slice p n cap) w:=by
 have hs:Go.Src P i.size t (.slice q 0 c) 0 [] w:=by
  cases q with
  |none=>exact Go.Src.ofNil w ht c
  |some a=>exact Go.Src.ofSlice w ht a 0 c [] (by simp) (by simp) (by simp)
 have hnc:n≤cap:=by
  rcases hown.2 with ⟨h1,h2⟩|⟨g,cap',cur,h1,_,_,h4,_⟩
  ·simp at h1;omega
  ·simp at h1;omega
 cases p with
 |none=>simp[Go.Builtin.append_,Go.run_underlying ht,Go.sizeOf,Go.typeInfo,hi,hs.len,hs.cells,hnc]
 |some a=>simp[Go.Builtin.append_,Go.run_underlying ht,Go.sizeOf,Go.typeInfo,hi,hs.len,hs.cells,hnc,Go.storeCells]
theorem Go.RX.wpl_appA {P:Go.Program} {ops:Array Go.Oper} {rest:List Go.Oper} {o:Go.Oper} {a:Go.Act} {w:Go.World} {Q:Go.Exit→Go.Act→Go.World→Prop} {t e:Go.TypeId} {z:Go.Value} {size bytes:Nat} (hgd:o.guard=none) (E:Go.RX.ElemOf P t e z size bytes) (s x:Go.Operand)
  (ho:o.op=.call { callee:=.builtin .append,args:=#[s,x],argTypes:=#[t,t] }) (base:Nat)
  (p:Option Go.Addr) (n cap:Nat) (xs:List Go.Value) (hown:w.ownsRow base e size (.slice p n cap) n xs) (hs:a.eval s=.slice p n cap)
  (q:Option Go.Addr) (m mc:Nat) (news:List Go.Value) (hx:a.eval x=.slice q m mc) (hc:news.length=m*size) (hq:0 < m→∃ ad,q=some ad∧∀ j u,news[j]?=some u→w.cell? (ad.add j)=some u) (h1:∀ u∈news,u.oneCell'=true)
  (hbytes:(n+m)*bytes≤140737488355328) (hn:n+m≤140737488355328) (hbase:base≤w.heap.size)
  (h:∀ v' w',w'.ownsRow base e size v' (n+m) (xs ++ news)→Go.RowKit.Below base w w'→Go.wpList P ops Q rest (a.put o.dst v') w'):Go.wpList P ops Q (o :: rest) a w:=by
 rcases Nat.eq_zero_or_pos m with h0|h0
 ·subst h0
  have hne:news=[]:=by cases news with
   |nil=>rfl
   |cons u l=>simp at hc
  subst hne
  refine Go.wpList_plain hgd fun K hK=>?_
  obtain⟨i0,hi,_⟩:=Go.info_parts E.hi
  have hrun:=Go.RX.run_appendZ (P:=P) w t o.type e i0 E.ht hi p q n cap mc base size xs hown
  unfold Go.Oper.wp Go.execOp
  simp only[ho,Go.resolve,Go.invoke,Go.builtin,Go.Sem.run_bind,Go.Sem.run_pure,Go.Result.andThen_ok,List.map_toArray,List.map_cons,List.map_nil,hx,hs,hrun]
  exact hK _ _ (h _ _ (by rw[List.append_nil];exact hown) (Go.RowKit.Below.refl _ _))
 ·obtain⟨ad,rfl,hnews⟩:=hq h0
  exact Go.RX.wpl_appS hgd E s x ho base _ n xs hown hs ad m mc news hx hc hnews h1 hbytes hn hbase (fun v' w' a b _ _=>h v' w' a b)
namespace Go.Proofs.YtednaajanciabaaGreatDoor
open Go.RowKit Go.Grid
def rep0:Rep:=⟨0,⟨#[]⟩,0,0,0,0,0,.slice none 0 0⟩
theorem QRow.nil (w:World) (base:Nat):QRow w base (.slice none 0 0) []:=World.ownsRow_nil _ _ _ _
theorem FRow.oth {w:World} {b N D i:Nat} {f:Nat→Int} {v:Value} (h:FRow w b N f) (hne:b≠D):FRow (w.setCell ⟨D,i,none⟩ v) b N f:=h.kept (Below.heap_setCell _ _ _ b hne)
def natI (L:List Nat):List Int:=L.map (fun i:Nat=>(i:Int))
theorem natI_len (L:List Nat):(natI L).length=L.length:=by simp[natI]
theorem QRow.rd {w:World} {base:Nat} {v:Value} {L:List Nat} (h:QRow w base v L):RdI w v (natI L):=by
 rcases Nat.eq_zero_or_pos L.length with h0|h0
 ·obtain⟨p,cap,rfl,hc⟩:=own_slice h
  obtain rfl:=List.length_eq_zero_iff.1 h0
  exact⟨p,cap,rfl,hc,0,0,fun h=>absurd h (by simp[natI]),fun j hj=>absurd hj (by simp[natI])⟩
 ·obtain⟨g,cap,rfl,hc,_,_,hcell⟩:=own_cells h h0
  refine⟨_,cap,by rw[natI_len],by rw[natI_len];exact hc,g,0,fun _=>rfl,fun j hj=>?_⟩
  rw[natI_len] at hj
  rw[Nat.zero_add,hcell j hj]
  unfold qV natI
  rw[List.getElem?_map,List.getElem?_eq_getElem hj]
  show some (Value.int .i64 (L[j]:Int))=some (Value.int .i64 ((L.map (fun i:Nat=>(i:Int)))[j]'(by simpa using hj)))
  rw[List.getElem_map]
theorem pick_any (w:World) (g b n i N:Nat) (zs:List Int) (m cap:Nat) (hm:zs.length=m) (h0:0 < m) (h1:m≤1000) (h:SrcAt w g b n i) (hz:∀ j (h:j < zs.length),w.cell? ⟨N,j,none⟩=some (.int .i64 zs[j])) (hN:N≠g) :
  Calls Tryz.prog 34 #[.pointer (some ⟨g,0,none⟩),.slice (some ⟨N,0,none⟩) m cap] w fun e w'=>∃ x:Int,e=.returned (.int .i64 x)∧x∈zs∧w.grownBy w' (some g)∧∃ j,SrcAt w' g b n j:=by
 go_enter Tryz.func34,Tryz.ntmps34
 go_wp2_with fail
 refine (srcN_any w g b n i m h (by omega) (by omega)).mono ?_
 rintro e w1 ⟨x,rfl,hx0,hx1,hg1,hS⟩
 obtain⟨k,rfl⟩:=Int.eq_ofNat_of_zero_le hx0
 have hk:k < zs.length:=by omega
 have hS1:=zN hS
 have hG1:=zN hg1
 have kk:=hg1.cell (hz k hk) (by simpa using hN)
 have HX:=zN (List.getElem_mem hk)
 generalize zs[k]=z at kk HX
 clear hS hg1 h hz hm hk
 go_wp2
 go_ret
 exact⟨z,rfl,HX.out,hG1.out,hS1.out⟩
theorem ins_perm {D:List Nat} {i k:Nat} (h:D.Perm (List.range i)):(D.take k ++ ([i] ++ D.drop k)).Perm (List.range (i+1)):=by
 rw[List.range_succ]
 have h1:(D.take k ++ ([i] ++ D.drop k)).Perm (i :: (D.take k ++ D.drop k)):=List.perm_middle
 rw[List.take_append_drop] at h1
 exact h1.trans ((List.Perm.cons i h).trans (List.perm_append_singleton i (List.range i)).symm)
theorem QRow.ins {w:World} {base base' k i:Nat} {v:Value} {D:List Nat} (hk:k≤D.length) (h:w.ownsRow base' 3 1 v (k+(1+(D.length-k))) (qV (D.take k) ++ (#[Value.int .i64 (i:Int)].toList ++ qV (D.drop k)))) (hb:base≤base'):QRow w base v (D.take k ++ ([i] ++ D.drop k)):=by
 unfold QRow
 have e:(D.take k ++ ([i] ++ D.drop k)).length=k+(1+(D.length-k)):=by simp;omega
 rw[e]
 have e2:qV (D.take k ++ ([i] ++ D.drop k))=qV (D.take k) ++ (#[Value.int .i64 (i:Int)].toList ++ qV (D.drop k)):=by simp[qV]
 rw[e2]
 exact own_mono h hb
theorem VecR.news {w:World} {p:Option Addr} {L:List Rep} {m:Nat} (h:VecR w p L) (hm:L.length=m):0 < m→∃ ad,p=some ad∧∀ j u,(L.flatMap rpc)[j]?=some u→w.cell? (ad.add j)=some u:=by
 intro h0
 obtain⟨b,o,h1,h2⟩:=h
 refine⟨_,h1 (by omega),fun j u hj=>?_⟩
 have hlt:j < L.length*8:=by
  rw[←rps_len]
  exact (List.getElem?_eq_some_iff.1 hj).1
 have e:j=j / 8*8+j % 8:=by omega
 have hk:j / 8 < L.length:=by omega
 have h8:j % 8 < 8:=by omega
 rw[e,rps_get L _ hk _ h8] at hj
 rw[Addr.add_lit,e]
 have hr:=h2 _ hk
 generalize j / 8=k at *
 generalize j % 8=c at *
 rw[←zQ]
 match c,h8 with
 |0,_=>rw[←hj];exact hr.c0
 |1,_=>rw[←hj];exact hr.c1
 |2,_=>rw[←hj];exact hr.c2
 |3,_=>rw[←hj];exact hr.c3
 |4,_=>rw[←hj];exact hr.c4
 |5,_=>rw[←hj];exact hr.c5
 |6,_=>rw[←hj];exact hr.c6
 |7,_=>rw[←hj];exact hr.c7
theorem rpc_one {L:List Rep} (h:∀ r∈L,RdOk r):∀ u∈L.flatMap rpc,u.oneCell'=true:=by
 intro u hu
 rw[List.mem_flatMap] at hu
 obtain⟨r,hr,hu⟩:=hu
 obtain⟨q,m,c,e⟩:=h r hr
 simp only[rpc,List.mem_cons,List.not_mem_nil,or_false] at hu
 rcases hu with rfl|rfl|rfl|rfl|rfl|rfl|rfl|rfl<;>first|rfl|(rw[e];rfl)
theorem own_empty (w:World) (e:TypeId) (size:Nat):(w.alloc (.cells #[] e)).ownsRow w.heap.size e size (.slice (some ⟨w.heap.size,0,none⟩) 0 0) 0 []:=
 ⟨by simp,.inr ⟨w.heap.size,0,#[],rfl,Nat.le_refl _,heap_alloc_new _ _,Nat.le_refl _,by simp,by simp,by simp⟩⟩
theorem own_set {w:World} {base b n cap size:Nat} {e:TypeId} {xs:List Value} (h:w.ownsRow base e size (.slice (some ⟨b,0,none⟩) n cap) n xs) (k:Nat) (u:Value) (hk:k < n*size):(w.setCell ⟨b,k,none⟩ u).ownsRow base e size (.slice (some ⟨b,0,none⟩) n cap) n (xs.set k u):=by
 refine⟨by rw[List.length_set];exact h.1,?_⟩
 rcases h.2 with ⟨h1,_⟩|⟨g,cap',cur,h1,h2,h3,h4,h5,h6,h7⟩
 ·cases h1
 ·injection h1 with e1 _ e2
  injection e1 with e1
  injection e1 with e1
  subst e1 e2
  refine .inr ⟨b,cap,cur.setIfInBounds k u,rfl,h2,?_,h4,h5,by simpa using h6,?_⟩
  ·simp[World.setCell,Array.getElem?_modify,h3]
  ·rw[←h7,Array.toList_setIfInBounds,List.take_set]
theorem rps_set {u:Value} {c:Nat} {r':Rep} (hc:c < 8):∀ (L:List Rep) (i:Nat) (hi:i < L.length),rpc r'=(rpc L[i]).set c u→(L.flatMap rpc).set (i*8+c) u=(L.set i r').flatMap rpc
 |[],i,hi,_=>absurd hi (by simp)
 |p :: L,0,_,h=>by
  have h':rpc r'=(rpc p).set c u:=h
  rw[List.set_cons_zero,List.flatMap_cons,List.flatMap_cons,h',List.set_append_left _ _ (by simp[rpc];omega),Nat.zero_mul,Nat.zero_add]
 |p :: L,i+1,hi,h=>by
  rw[List.set_cons_succ,List.flatMap_cons,List.flatMap_cons,←rps_set hc L i (by simpa using hi) h,List.set_append_right _ _ (by simp[rpc];omega)]
  congr 2
  simp[rpc];omega
theorem RepRow.put {w:World} {base b n cap:Nat} {L:List Rep} (h:RepRow w base (.slice (some ⟨b,0,none⟩) n cap) L) (hn:L.length=n) {i c:Nat} {u:Value} {r':Rep} (hi:i < L.length) (hc:c < 8) (hr:rpc r'=(rpc L[i]).set c u):RepRow (w.setCell ⟨b,i*8+c,none⟩ u) base (.slice (some ⟨b,0,none⟩) n cap) (L.set i r'):=by
 unfold RepRow at h ⊢
 subst hn
 rw[List.length_set,←rps_set hc L i hi hr]
 exact own_set h _ u (by omega)
theorem RepRow.cell8 {w:World} {base b n cap:Nat} {L:List Rep} (h:RepRow w base (.slice (some ⟨b,0,none⟩) n cap) L) {i c:Nat} (hi:i < L.length) (hc:c < 8) {u:Value} (hu:(rpc L[i])[c]?=some u):w.cell? ⟨b,i*8+c,none⟩=some u:=by
 have:=World.ownsRow.cells h (g:=b) rfl (i*8+c) u (by rw[rps_get L i hi c hc];exact hu)
 rwa[Addr.add_lit,Nat.zero_add] at this
theorem RepRow.soft8 {w:World} {base b n cap:Nat} {L:List Rep} (h:RepRow w base (.slice (some ⟨b,0,none⟩) n cap) L) (j:Nat):w.frozen? ⟨b,j,none⟩=false:=by
 rcases h.2 with ⟨h1,_⟩|⟨g,cap',cur,h1,_,h3,_⟩
 ·cases h1
 ·injection h1 with e
  injection e with e
  injection e with e
  subst e
  simp[World.frozen?,h3]
theorem VecR.gr {w w':World} {p:Option Addr} {L:List Rep} {g:Nat} (h:VecR w p L) (hg:w.grownBy w' (some g)) (hne:∀ a,p=some a→0 < L.length→a.block≠g):VecR w' p L:=by
 rcases Nat.eq_zero_or_pos L.length with h0|h0
 ·obtain rfl:=List.length_eq_zero_iff.1 h0
  exact VecR.nil _ _
 ·obtain⟨b,o,h1,h2⟩:=h
  have hb:=hne _ (h1 h0) h0
  exact⟨b,o,h1,fun k hk=>(h2 k hk).of_block (hg.block b (h2 k hk).lt (fun e=>hb (by injection e)))⟩
theorem kints_len (p q:Option Addr) (zs ys:List Int) (cz cy:Nat) (w:World) (hV:VecAt w p zs) (hU:VecAt w q ys) (hlen:zs.length=ys.length) (hl:zs.length≤1000000000) :
  Calls Tryz.prog 28 #[.slice p zs.length cz,.slice q zs.length cy] w fun e w'=>e=.returned (.bool (decide (zs=ys)))∧Below w.heap.size w w':=by
 have HE:Hid ((∀ k (h:k < zs.length) (h2:k < ys.length),zs[k]=ys[k])→decide (zs=ys)=true):=zN (fun h=>zDt (List.ext_getElem hlen (fun k h1 h2=>h k h1 h2)))
 have HF:Hid (∀ k (h:k < zs.length) (h2:k < ys.length),zs[k]≠ys[k]→decide (zs=ys)=false):=zN (fun k h h2 hne=>zDf (fun e=>hne (by subst e;rfl)))
 have HV:=zN (And.intro hV (And.intro hU hlen))
 clear hV hU
 obtain⟨n,hn⟩:∃ n,n=zs.length:=⟨_,rfl⟩
 have hny:n=ys.length:=hn.trans hlen
 have HN:=zN (And.intro hn hny)
 rw[←hn] at hl ⊢
 clear hn hny hlen
 go_enter Tryz.func28,Tryz.ntmps28
 go_wp2
 go_loopw [5] (fun i wr=>∃ k:Nat,k≤n∧i=.int .i64 k∧Hid (∀ j (h:j < zs.length) (h2:j < ys.length),j < k→zs[j]=ys[j])∧Below w.heap.size w wr) (fun i _=>n-(intOf i).toNat)
 case atStart=>exact⟨0,by omega,rfl,zN (fun j _ _ h=>by omega),zBr _ _⟩
 case round=>
  obtain⟨k,hk,rfl,HX,hB⟩:=hrel
  by_cases hlt:k < n
  ·have hdk:decide ((k:Int) < (n:Int))=true:=zDt (by omega)
   have h1:k < zs.length:=by rw[←HN.out.1];exact hlt
   have h2:k < ys.length:=by rw[←HN.out.2];exact hlt
   obtain⟨b,o,rfl,hbl,hcell⟩:=HV.out.1.cell (by omega)
   obtain⟨c,o2,rfl,hcl,hcell2⟩:=HV.out.2.1.cell (by omega)
   have ck:=zP hB (hcell k h1)
   have dk:=zP hB (hcell2 k h2)
   have HNE:=HF.out k h1 h2
   obtain⟨x,hx⟩:∃ x,x=zs[k]:=⟨_,rfl⟩
   obtain⟨u,hu⟩:∃ u,u=ys[k]:=⟨_,rfl⟩
   rw[←hx] at ck HNE
   rw[←hu] at dk HNE
   have HXU:=zN (And.intro hx hu)
   clear hx hu hcell hcell2
   by_cases he:x=u
   ·subst he
    clear HNE
    go_wp2
    refine RX.region RX.fN (fun w'=>w'=_) (by kernel_rfl) (by kernel_rfl) rfl (fun OPS HO QR hQR=>?_)
    repeat (refine zeX (fun R hR=>?_);(first|refine zaX (by first|rfl|(rw[HO.out];rfl)) (by simp only[zA,zB,zC,zD];rfl) ?_|refine zbX (by first|rfl|(rw[HO.out];rfl)) rfl (by first|exact .inl rfl|exact .inr rfl) (by simp only[zE,zF,zG,zH];rfl) (by simp only[zA,zB,zC,zD];rfl) ?_|refine zcX (by first|rfl|(rw[HO.out];rfl)) rfl rfl (by simp only[zE,zF,zG,zH];rfl) (by simp only[zA,zB,zC,zD];rfl) ?_|(refine zdX (by first|rfl|(rw[HO.out];rfl)) rfl rfl rfl ?_;apply zEx;apply zEx;refine⟨fun w' hS K hK=>?_,?_,?_⟩;(focus (subst hS;go_wp2;exact hK _ _ (by simp only[zl,zG,zH];first|exact zf (by omega)|exact zg (by omega)|exact zh (by omega)|exact zi (by omega)|exact zj (by omega)|exact zk (by omega)|exact RX.bneB _|rfl) rfl));(focus (simp only[zA,zB,zC,zD];rfl))));refine hR _ _ ?_;clear hR R)
    refine RX.wpL_nil (hQR _ _ rfl ?_);clear hQR QR HO OPS
    go_wp2
    go_roundw
    case rel=>exact⟨k+1,by omega,by go_num,zN (fun j h3 h4 h=>by
     by_cases hj:j=k
     ·subst hj;rw[←HXU.out.1,←HXU.out.2]
     ·exact HX.out j h3 h4 (by omega)),hB.drew⟩
    case measure=>simp[intOf];omega
   ·have hne:=HNE he
    have HNE2:=zN hne
    clear HNE hne
    have hb:(x == u)=false:=by rw[beq_eq_false_iff_ne];exact he
    have hb2:(x != u)=true:=by simp[he]
    go_wp2
    refine RX.region RX.fN (fun w'=>w'=_) (by kernel_rfl) (by kernel_rfl) rfl (fun OPS HO QR hQR=>?_)
    repeat (refine zeX (fun R hR=>?_);(first|refine zaX (by first|rfl|(rw[HO.out];rfl)) (by simp only[zA,zB,zC,zD];rfl) ?_|refine zbX (by first|rfl|(rw[HO.out];rfl)) rfl (by first|exact .inl rfl|exact .inr rfl) (by simp only[zE,zF,zG,zH];rfl) (by simp only[zA,zB,zC,zD];rfl) ?_|refine zcX (by first|rfl|(rw[HO.out];rfl)) rfl rfl (by simp only[zE,zF,zG,zH];rfl) (by simp only[zA,zB,zC,zD];rfl) ?_|(refine zdX (by first|rfl|(rw[HO.out];rfl)) rfl rfl rfl ?_;apply zEx;apply zEx;refine⟨fun w' hS K hK=>?_,?_,?_⟩;(focus (subst hS;go_wp2;exact hK _ _ (by simp only[zl,zG,zH];first|exact zf (by omega)|exact zg (by omega)|exact zh (by omega)|exact zi (by omega)|exact zj (by omega)|exact zk (by omega)|exact RX.bneB _|rfl) rfl));(focus (simp only[zA,zB,zC,zD];rfl))));refine hR _ _ ?_;clear hR R)
    refine RX.wpL_nil (hQR _ _ rfl ?_);clear hQR QR HO OPS
    go_wp2
    go_ret
    rw[HNE2.out]
    exact⟨rfl,hB.drew⟩
  ·have hdk:decide ((k:Int) < (n:Int))=false:=zDf (by omega)
   obtain rfl:k=n:=by omega
   have HT:=zN (HE.out (fun j h h2=>HX.out j h h2 (by rw[HN.out.1];exact h)))
   go_wp2
   go_ret
   rw[HT.out]
   exact⟨rfl,hB⟩
def BRow (w:World) (b M:Nat) (f:Nat→Bool):Prop:=w.rowIs b 4 M (fun j=>.bool (f j))
theorem BRow.set {w:World} {b M:Nat} {f:Nat→Bool} (h:BRow w b M f) (i:Nat) (x:Bool):BRow (w.setCell ⟨b,i,none⟩ (.bool x)) b M (fun j=>if j=i then x else f j):=
 (World.rowIs.set h i (.bool x)).congr (fun j _=>by by_cases e:j=i<;>simp[e])
theorem BRow.congr {w:World} {b M:Nat} {f g:Nat→Bool} (h:BRow w b M f) (e:∀ j,j < M→f j=g j):BRow w b M g:=World.rowIs.congr h (fun j hj=>by rw[e j hj])
theorem BRow.of_block {w w':World} {b M:Nat} {f:Nat→Bool} (h:BRow w b M f) (e:w'.heap[b]?=w.heap[b]?):BRow w' b M f:=World.rowIs.of_block h e
theorem BRow.cell {w:World} {b M:Nat} {f:Nat→Bool} (h:BRow w b M f) {i:Nat} (hi:i < M):w.cell? ⟨b,i,none⟩=some (.bool (f i)):=World.rowIs.cell h hi
theorem BRow.lt {w:World} {b M:Nat} {f:Nat→Bool} (h:BRow w b M f):b < w.heap.size:=World.rowIs.lt h
theorem BRow.below {w w':World} {b M:Nat} {f:Nat→Bool} (h:BRow w b M f) (hb:Below w.heap.size w w'):BRow w' b M f:=h.of_block (hb.block _ h.lt)
theorem ba_beq (a b:ByteArray):(a == b)=true↔a=b:=by
 obtain⟨a⟩:=a
 obtain⟨b⟩:=b
 rw[ByteArray.mk.injEq]
 exact (beq_iff_eq (a:=a) (b:=b))
theorem str_ne {a b:ByteArray} (h:a≠b):(a == b)=false∧(a.toList == b.toList)=false:=by
 constructor
 ·rw[Bool.eq_false_iff]
  exact fun e=>h ((ba_beq a b).1 e)
 ·rw[beq_eq_false_iff_ne,ne_eq,ByteArray.toList_eq,ByteArray.toList_eq]
  exact fun e=>h (by
   obtain⟨x⟩:=a
   obtain⟨y⟩:=b
   have e2:x=y:=by simpa using e
   rw[e2])
theorem str_eq {a b:ByteArray} (h:a=b):(a == b)=true∧(a.toList == b.toList)=true:=by
 subst h
 exact⟨(ba_beq a a).2 rfl,by simp⟩
def NRow (w:World) (b M:Nat) (f:Nat→Int):Prop:=w.rowIs b 3 M (fun j=>.int .i64 (f j))
theorem NRow.set {w:World} {b M:Nat} {f:Nat→Int} (h:NRow w b M f) (i:Nat) (x:Int):NRow (w.setCell ⟨b,i,none⟩ (.int .i64 x)) b M (fun j=>if j=i then x else f j):=
 (World.rowIs.set h i (.int .i64 x)).congr (fun j _=>by by_cases e:j=i<;>simp[e])
theorem NRow.congr {w:World} {b M:Nat} {f g:Nat→Int} (h:NRow w b M f) (e:∀ j,j < M→f j=g j):NRow w b M g:=World.rowIs.congr h (fun j hj=>by rw[e j hj])
theorem NRow.of_block {w w':World} {b M:Nat} {f:Nat→Int} (h:NRow w b M f) (e:w'.heap[b]?=w.heap[b]?):NRow w' b M f:=World.rowIs.of_block h e
theorem NRow.cell {w:World} {b M:Nat} {f:Nat→Int} (h:NRow w b M f) {i:Nat} (hi:i < M):w.cell? ⟨b,i,none⟩=some (.int .i64 (f i)):=World.rowIs.cell h hi
theorem kin_any (v:Value) (zs:List Int) (x:Int) (w:World) (h:RdI w v zs) (hl:zs.length≤1000000):Calls Tryz.prog 29 #[v,.int .i64 x] w fun e w'=>e=.returned (.bool (decide (x∈zs)))∧w=w':=by
 obtain⟨p,cap,rfl,hcap,hV⟩:=h
 go_enter Tryz.func29,Tryz.ntmps29
 go_wp2
 go_loopw [5] (fun i wr=>∃ k:Nat,k≤zs.length∧i=.int .i64 k∧Hid (∀ j (h:j < zs.length),j < k→zs[j]≠x)∧wr=w) (fun i _=>zs.length-(intOf i).toNat)
 case atStart=>exact⟨0,by omega,rfl,zN fun j _ hj=>by omega,rfl⟩
 case round=>
  obtain⟨k,hk,rfl,HK,rfl⟩:=hrel
  by_cases hlt:k < zs.length
  ·have hdk:decide ((k:Int) < (zs.length:Int))=true:=zDt (by omega)
   obtain⟨b,o,rfl,hbl,hcell⟩:=hV.cell (by omega)
   have ck:=hcell k hlt
   obtain⟨y,hy⟩:∃ y,y=zs[k]:=⟨_,rfl⟩
   rw[←hy] at ck
   have HY:=zN hy
   clear hy hcell
   by_cases hr:y=x
   ·have HN:Hid (decide (x∈zs)=true):=zN (zDt (by rw[←hr,HY.out];exact List.getElem_mem _))
    subst hr
    go_wp2
    go_ret
    rw[HN.out];exact⟨rfl,rfl⟩
   ·have hb:(y == x)=false:=by rw[beq_eq_false_iff_ne];exact hr
    go_wp2
    go_roundw
    case rel=>exact⟨k+1,by omega,by go_num,zN fun j hj hjk=>by
     by_cases h:j=k
     ·subst h;rw[←HY.out];exact hr
     ·exact HK.out j hj (by omega),(by first|rfl|trivial)⟩
    case measure=>simp[intOf];omega
  ·have hdk:decide ((k:Int) < (zs.length:Int))=false:=zDf (by omega)
   have hkl:k=zs.length:=by omega
   have HN:Hid (decide (x∈zs)=false):=zN (zDf fun hx=>by
    obtain⟨j,hj,e⟩:=List.getElem_of_mem hx
    exact HK.out j hj (by omega) e)
   clear hkl
   go_wp2
   go_ret
   rw[HN.out];exact⟨rfl,rfl⟩
def rdLen (r:Rep):Nat:=match r.rd with
 |.slice _ n _=>n
 |_=>0
def smallR (r:Rep):Bool:=decide (r.name.size≤40) && decide (rdLen r≤40)
def smallB (n:Nat) (l:List Rep):Bool:=decide (l.length≤n) && l.all smallR
theorem smallB_len {n:Nat} {l:List Rep} (h:smallB n l=true):l.length≤n∧∀ r∈l,r.name.size≤40∧rdLen r≤40:=by
 unfold smallB at h
 rw[Bool.and_eq_true,decide_eq_true_eq,List.all_eq_true] at h
 refine⟨h.1,fun r hr=>?_⟩
 have h2:=h.2 r hr
 unfold smallR at h2
 rw[Bool.and_eq_true,decide_eq_true_eq,decide_eq_true_eq] at h2
 exact h2
theorem small_any (r:Rep) (hr:RdOk r) (w:World):Calls Tryz.prog 53 #[rpv r] w fun e w'=>e=.returned (.bool (smallR r))∧Below w.heap.size w w':=by
 obtain⟨k,s,t,f,a,b,c,rd⟩:=r
 obtain⟨p,n,cp,hrd⟩:=hr
 dsimp only at hrd
 subst hrd
 have hb0:Below w.heap.size w (w.alloc (.cells (rpc ⟨k,s,t,f,a,b,c,.slice p n cp⟩).toArray 44)):=(zBr _ _).alloc (Nat.le_refl _) _
 unfold rpc at hb0
 dsimp only at hb0
 unfold rpv
 dsimp only
 have HB0:=zN hb0
 clear hb0
 have HS:Hid (smallR ⟨k,s,t,f,a,b,c,.slice p n cp⟩=(decide (s.size≤40) && decide (n≤40))):=zN rfl
 by_cases h1:s.size≤40
 ·by_cases h2:n≤40
  ·have d1:decide ((s.size:Int)≤40)=true:=zDt (by omega)
   have d2:decide ((n:Int)≤40)=true:=zDt (by omega)
   go_enter Tryz.func53,Tryz.ntmps53
   go_wp2
   go_ret
   refine⟨?_,HB0.out⟩
   rw[HS.out,zDt h1,zDt h2];rfl
  ·have d1:decide ((s.size:Int)≤40)=true:=zDt (by omega)
   have d2:decide ((n:Int)≤40)=false:=zDf (by omega)
   go_enter Tryz.func53,Tryz.ntmps53
   go_wp2
   go_ret
   refine⟨?_,HB0.out⟩
   rw[HS.out,zDt h1,zDf (by omega)];rfl
 ·have d1:decide ((s.size:Int)≤40)=false:=zDf (by omega)
  go_enter Tryz.func53,Tryz.ntmps53
  go_wp2
  go_ret
  refine⟨?_,HB0.out⟩
  rw[HS.out,zDf (by omega)];rfl
theorem smallAll_any (n:Nat) (p:Option Addr) (cap M:Nat) (l:List Rep) (hM:l.length=M) (hn:n≤1000) (w:World) (hV:VecR w p l) :
  Calls Tryz.prog 22 #[.slice p M cap,.int .i64 (n:Int)] w fun e w'=>e=.returned (.bool (smallB n l))∧Below w.heap.size w w':=by
 have HM:=zN hM
 have HV:=zN hV
 have hB0:=zN (zBr w.heap.size w)
 clear hM hV
 by_cases hl:n < M
 ·have hd:decide ((M:Int) > (n:Int))=true:=zDt (by omega)
  go_enter Tryz.func22,Tryz.ntmps22
  go_wp2
  go_ret
  refine⟨?_,hB0.out⟩
  unfold smallB
  rw[zDf (by have:=HM.out;omega)];rfl
 ·have hd:decide ((M:Int) > (n:Int))=false:=zDf (by omega)
  have HA:Hid (smallB n l=l.all smallR):=zN (by unfold smallB;rw[zDt (by have:=HM.out;omega),Bool.true_and])
  go_enter Tryz.func22,Tryz.ntmps22
  go_wp2
  go_loopw [5] (fun v5 wr=>∃ i:Nat,i≤M∧v5=.int .i64 (i:Int)∧Hid (∀ j (h:j < l.length),j < i→smallR l[j]=true)∧Below w.heap.size w wr) (fun v5 _=>M-(intOf v5).toNat)
  case atStart=>exact⟨0,by omega,rfl,zN (fun j _ h=>by omega),hB0.out⟩
  case round=>
   obtain⟨i,hiM,rfl,HI,hb⟩:=hrel
   by_cases hi:i < M
   ·have hdi:decide ((i:Int) < (M:Int))=true:=zDt (by omega)
    have hi0:(0:Int)≤(i:Int):=by omega
    have hi1:(i:Int) < (M:Int):=by omega
    obtain⟨bb,o,rfl,_,hrp⟩:=(HV.out.below hb).cell (by rw[HM.out];omega)
    have hri:=hrp i (by rw[HM.out];omega)
    obtain⟨r,hr⟩:∃ r,r=l[i]'(by rw[HM.out];omega):=⟨_,rfl⟩
    rw[←hr] at hri
    have HR:=zN hr
    have hrd:=hri.rd
    obtain⟨x0,x1,x2,x3,x4,x5,x6,x7,_⟩:=hri
    have HB:=zN hb
    clear hrp hr hb
    go_wp2_with fail
    refine (small_any r hrd _).mono ?_
    rintro e w2 ⟨rfl,hb2⟩
    have HB2:=zN (HB.out.trans (hb2.mono HB.out.size))
    clear hb2 x0 x1 x2 x3 x4 x5 x6 x7 hrd
    cases hs:smallR r
    ·have HF:Hid (smallB n l=false):=zN (by
      rw[HA.out,List.all_eq_false]
      exact⟨r,by rw[HR.out];exact List.getElem_mem _,by rw[hs];simp⟩)
     clear hs
     go_wp2
     go_ret
     exact⟨by rw[HF.out];rfl,HB2.out⟩
    ·have HS:=zN hs
     clear hs
     go_wp2
     go_roundw
     case rel=>exact⟨i+1,by omega,by go_num,zN (fun j hj hji=>by
      by_cases e:j=i
      ·subst e;rw[←HR.out];exact HS.out
      ·exact HI.out j hj (by omega)),HB2.out⟩
     case measure=>simp[intOf]<;>omega
   ·have hdi:decide ((i:Int) < (M:Int))=false:=zDf (by omega)
    have HT:Hid (smallB n l=true):=zN (by
     rw[HA.out,List.all_eq_true]
     intro r hr
     obtain⟨j,hj,rfl⟩:=List.getElem_of_mem hr
     exact HI.out j hj (by have:=HM.out;omega))
    have HB1:=zN hb
    clear hb HI
    go_wp2
    go_ret
    exact⟨by rw[HT.out];rfl,HB1.out⟩
end Go.Proofs.YtednaajanciabaaGreatDoor
