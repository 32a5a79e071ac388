import Derived.Test.YtbomggfklfbnkaaGreatDoorKTrkU
import Derived.Test.YtbomggfklfbnkaaGreatDoorKLinV
import Derived.Deep.AppendSrc
set_option maxRecDepth 100000
set_option maxHeartbeats 8000000
set_option linter.unusedSimpArgs false
set_option linter.unusedVariables false
namespace Go.Proofs.YtbomggfklfbnkaaGreatDoor
open Go.RowKit Go.Grid Go.Maps Go.Sort Go.Shelf Go.Chain
noncomputable def soneL (n:Int) (l:List Rep):List Nat:=(List.range l.length).filter (fun i=>!(chainP (relP n l) l.length).contains i)
theorem bad_part {P Q:Nat→Nat→Bool} {off m:Nat} (hPQ:∀ i k,i < m→k < m→P (off+i) (off+k)=Q i k) {i:Nat} (hi:i < m):off+i∈badL P (List.range' off m)↔i ∉ chainP Q m:=by
 have hl:(List.range' off m).length=m:=List.length_range'
 have hg:∀ j,j < m→(List.range' off m).getD j 0=off+j:=fun j hj=>by
  rw[List.getD_eq_getElem?_getD,List.getElem?_eq_getElem (by rw[hl];exact hj)]
  simp
 have hc:chainP (fun a b=>P ((List.range' off m).getD a 0) ((List.range' off m).getD b 0)) (List.range' off m).length=chainP Q m:=by
  rw[hl]
  refine chain_congr fun i k hi hk=>?_
  rw[hg i hi,hg k hk]
  exact hPQ i k hi hk
 rw[mem_badL,hc]
 constructor
 ·rintro⟨j,hj,h1,h2⟩
  have h3:(List.range' off m)[j]=off+j:=by simp
  have:j=i:=by omega
  rw[←this];exact h1
 ·intro h
  exact⟨i,by rw[hl];exact hi,h,by simp⟩
theorem isG_of {R:Rs ByteArray} {s:ByteArray} {T:List Nat} (hn:T.Nodup) (hm:∀ i,i∈T↔i < R.n∧R.mv i=true∧R.nm i=s) (ha:T.Pairwise (fun i k=>R.tm i≤R.tm k)):R.IsG s T:=
 ⟨(List.perm_ext_iff_of_nodup hn (R.grp_nodup s)).2 (fun i=>(hm i).trans Rs.mem_grp.symm),ha⟩
theorem getD_l {a b:List Rep} {i:Nat} (h:i < a.length):(a ++ b).getD i rep0=a[i]:=by
 rw[getD_rep (by rw[List.length_append];omega),List.getElem_append_left h]
theorem getD_r {a b:List Rep} {i:Nat} (h:i < b.length):(a ++ b).getD (a.length+i) rep0=b[i]:=by
 rw[getD_rep (by rw[List.length_append];omega),List.getElem_append_right (by omega)]
 congr 1;omega
theorem su_two {n:Int} {a b:List Rep} {s t:ByteArray} (hst:s≠t) (h0:0≤n) (h1:n≤1000) (ha:∀ r∈a,ValR r∧movB r=true∧r.name=s) (hb:∀ r∈b,ValR r∧movB r=true∧r.name=t)
  (aa:a.Pairwise (fun r s=>r.time < s.time)) (ab:b.Pairwise (fun r s=>r.time < s.time)):suE n (a ++ b)=0∧suL n (a ++ b)=soneL n a ++ (soneL n b).map (fun i=>a.length+i):=by
 have hA:∀ i (h:i < a.length),(rsOf (a ++ b)).mv i=true∧(rsOf (a ++ b)).nm i=s∧(rsOf (a ++ b)).tm i=a[i].time:=fun i h=>by
  have e:=getD_l (b:=b) h
  have f:=ha _ (List.getElem_mem h)
  exact⟨(congrArg movB e).trans f.2.1,(congrArg Rep.name e).trans f.2.2,congrArg Rep.time e⟩
 have hB:∀ i (h:i < b.length),(rsOf (a ++ b)).mv (a.length+i)=true∧(rsOf (a ++ b)).nm (a.length+i)=t∧(rsOf (a ++ b)).tm (a.length+i)=b[i].time:=fun i h=>by
  have e:=getD_r (a:=a) h
  have f:=hb _ (List.getElem_mem h)
  exact⟨(congrArg movB e).trans f.2.1,(congrArg Rep.name e).trans f.2.2,congrArg Rep.time e⟩
 have hn:(rsOf (a ++ b)).n=a.length+b.length:=List.length_append
 have hcase:∀ i,i < (rsOf (a ++ b)).n→i < a.length∨∃ j,j < b.length∧i=a.length+j:=fun i hi=>by
  rw[hn] at hi
  by_cases h:i < a.length
  ·exact .inl h
  ·exact .inr ⟨i-a.length,by omega,by omega⟩
 have hd:¬ (rsOf (a ++ b)).Dup:=by
  rintro⟨i,k,hki,hi,_,_,e1,e2⟩
  rcases hcase i hi with h|⟨j,hj,rfl⟩
  ·have:=List.pairwise_iff_getElem.1 aa k i (by omega) h hki
   rw[(hA i h).2.2,(hA k (by omega)).2.2] at e2
   omega
  ·rcases hcase k (by omega) with h2|⟨q,hq,rfl⟩
   ·rw[(hB j hj).2.1,(hA k h2).2.1] at e1
    exact hst e1.symm
   ·have:=List.pairwise_iff_getElem.1 ab q j hq hj (by omega)
    rw[(hB j hj).2.2,(hB q hq).2.2] at e2
    omega
 have gS:(rsOf (a ++ b)).gs s=List.range' 0 a.length:=by
  refine ((isG_of (List.nodup_range' ..) (fun i=>?_) ?_).unique hd).symm
  ·rw[List.mem_range'_1]
   constructor
   ·rintro⟨_,h⟩
    exact⟨by rw[hn];omega,(hA i (by omega)).1,(hA i (by omega)).2.1⟩
   ·rintro⟨h,_,h3⟩
    rcases hcase i h with h2|⟨q,hq,rfl⟩
    ·omega
    ·rw[(hB q hq).2.1] at h3
     exact absurd h3.symm hst
  ·refine List.Pairwise.imp_of_mem ?_ (List.pairwise_lt_range' (s:=0) (n:=a.length))
   intro i k hi hk hik
   rw[List.mem_range'_1] at hi hk
   have:=List.pairwise_iff_getElem.1 aa i k (by omega) (by omega) hik
   rw[(hA i (by omega)).2.2,(hA k (by omega)).2.2]
   omega
 have gT:(rsOf (a ++ b)).gs t=List.range' a.length b.length:=by
  refine ((isG_of (List.nodup_range' ..) (fun i=>?_) ?_).unique hd).symm
  ·rw[List.mem_range'_1]
   constructor
   ·rintro⟨h2,h⟩
    obtain⟨q,rfl⟩:∃ q,i=a.length+q:=⟨i-a.length,by omega⟩
    exact⟨by rw[hn];omega,(hB q (by omega)).1,(hB q (by omega)).2.1⟩
   ·rintro⟨h,_,h3⟩
    rcases hcase i h with h2|⟨q,hq,rfl⟩
    ·rw[(hA i h2).2.1] at h3
     exact absurd h3 hst
    ·omega
  ·refine List.Pairwise.imp_of_mem ?_ (List.pairwise_lt_range' (s:=a.length) (n:=b.length))
   intro i k hi hk hik
   rw[List.mem_range'_1] at hi hk
   obtain⟨p,rfl⟩:∃ q,i=a.length+q:=⟨i-a.length,by omega⟩
   obtain⟨q,rfl⟩:∃ q,k=a.length+q:=⟨k-a.length,by omega⟩
   have:=List.pairwise_iff_getElem.1 ab p q (by omega) (by omega) (by omega)
   rw[(hB p (by omega)).2.2,(hB q (by omega)).2.2]
   omega
 have hv:hopB n=true∧MovV (a ++ b):=⟨zDt ⟨h0,h1⟩,fun r hr _=>by
  rcases List.mem_append.1 hr with h|h
  ·exact (ha r h).1
  ·exact (hb r h).1⟩
 obtain⟨e1,e2⟩:=suE_ok hv hd
 refine⟨e1,?_⟩
 rw[e2]
 unfold Rs.susp soneL
 rw[hn,List.range_add,List.filter_append,List.filter_map]
 congr 1
 ·refine List.filter_congr fun i hi=>?_
  rw[List.mem_range] at hi
  rw[(hA i hi).1,(hA i hi).2.1,gS,Bool.true_and,Bool.eq_iff_iff]
  have h:=bad_part (P:=relP n (a ++ b)) (Q:=relP n a) (off:=0) (m:=a.length) (fun i k hi hk=>by
   rw[Nat.zero_add,Nat.zero_add];unfold relP;rw[getD_l hi,getD_l hk,getD_rep hi,getD_rep hk]) hi
  rw[Nat.zero_add] at h
  simpa using h
 ·refine congrArg (List.map _) (List.filter_congr fun i hi=>?_)
  rw[List.mem_range] at hi
  show ((rsOf (a ++ b)).mv (a.length+i) && (badL (relP n (a ++ b)) ((rsOf (a ++ b)).gs ((rsOf (a ++ b)).nm (a.length+i)))).contains (a.length+i))=_
  rw[(hB i hi).1,(hB i hi).2.1,gT,Bool.true_and,Bool.eq_iff_iff]
  have h:=bad_part (P:=relP n (a ++ b)) (Q:=relP n b) (off:=a.length) (m:=b.length) (fun i k hi hk=>by
   unfold relP;rw[getD_r hi,getD_r hk,getD_rep hi,getD_rep hk]) hi
  simpa using h
theorem soneL_nil (n:Int):soneL n []=[]:=rfl
theorem su_one {n:Int} {a:List Rep} {s:ByteArray} (h0:0≤n) (h1:n≤1000) (ha:∀ r∈a,ValR r∧movB r=true∧r.name=s) (aa:a.Pairwise (fun r s=>r.time < s.time)):suE n a=0∧suL n a=soneL n a:=by
 obtain⟨t,ht⟩:∃ t:ByteArray,s≠t:=by
  by_cases h:s=dStr
  ·exact⟨eStr,by rw[h];decide⟩
  ·exact⟨dStr,h⟩
 have:=su_two (b:=[]) ht h0 h1 ha (fun r hr=>absurd hr (by simp)) aa List.Pairwise.nil
 rw[List.append_nil,soneL_nil,List.map_nil,List.append_nil] at this
 exact this
theorem soneL_len (n:Int) (l:List Rep):(soneL n l).length≤l.length:=by
 have:=List.length_filter_le (fun i=>!(chainP (relP n l) l.length).contains i) (List.range l.length)
 rw[List.length_range] at this
 exact this
def ren (t:ByteArray) (l:List Rep):List Rep:=l.map (fun r=>{ r with name:=t })
theorem ren_len (t:ByteArray) (l:List Rep):(ren t l).length=l.length:=List.length_map ..
def renK (t:ByteArray) (k:Nat) (l:List Rep):List Rep:=ren t (l.take k) ++ l.drop k
theorem renK_len (t:ByteArray) {k:Nat} {l:List Rep} (h:k≤l.length):(renK t k l).length=l.length:=by
 unfold renK ren;rw[List.length_append,List.length_map,List.length_take,List.length_drop];omega
theorem renK_all (t:ByteArray) (l:List Rep):renK t l.length l=ren t l:=by
 unfold renK;rw[List.take_length,List.drop_length,List.append_nil]
theorem renK_get (t:ByteArray) {k:Nat} {l:List Rep} (h:k≤l.length) {i:Nat} (hi:i < l.length):(renK t k l)[i]'(by rw[renK_len t h];exact hi)=if i < k then { l[i] with name:=t } else l[i]:=by
 unfold renK ren
 rw[List.getElem_append]
 by_cases hik:i < k
 ·rw[dif_pos (by rw[List.length_map,List.length_take];omega),if_pos hik,List.getElem_map,List.getElem_take]
 ·rw[dif_neg (by rw[List.length_map,List.length_take];omega),if_neg hik,List.getElem_drop]
  congr 1
  rw[List.length_map,List.length_take];omega
theorem pick_any (w:World) (g b n i N:Nat) (zs:List Int) (m cap:Nat) (hm:zs.length=m) (h0:0 < m) (h1:m≤1000) (h:SrcAt w g b n i) (hz:∀ j (h:j < zs.length),w.cell? ⟨N,j,none⟩=some (.int .i64 zs[j])) (hN:N≠g) :
  Calls Tryz.prog 12 #[.pointer (some ⟨g,0,none⟩),.slice (some ⟨N,0,none⟩) m cap] w fun e w'=>∃ x:Int,e=.returned (.int .i64 x)∧x∈zs∧w.grownBy w' (some g)∧∃ j,SrcAt w' g b n j:=by
 go_enter Tryz.func12,Tryz.ntmps12
 go_wp2_with fail
 refine (srcN_any w g b n i m h (by omega) (by omega)).mono ?_
 rintro e w1 ⟨x,rfl,hx0,hx1,hg1,hS⟩
 obtain⟨k,rfl⟩:=Int.eq_ofNat_of_zero_le hx0
 have hk:k < zs.length:=by omega
 have hS1:=zN hS
 have hG1:=zN hg1
 have kk:=hg1.cell (hz k hk) (by simpa using hN)
 have HX:=zN (List.getElem_mem hk)
 generalize zs[k]=z at kk HX
 clear hS hg1 h hz hm hk
 go_wp2
 go_ret
 exact⟨z,rfl,HX.out,hG1.out,hS1.out⟩
theorem VecR.name {w:World} {b:Nat} {l:List Rep} {t:ByteArray} {k:Nat} (h:VecR w (some ⟨b,0,none⟩) (renK t k l)) (hk:k < l.length):VecR (w.setCell ⟨b,k*8+1,none⟩ (.string t)) (some ⟨b,0,none⟩) (renK t (k+1) l):=by
 obtain⟨b',o',h1,h2⟩:=h
 have hl:=renK_len t (Nat.le_of_lt hk)
 have hl':=renK_len t (k:=k+1) (l:=l) (by omega)
 have e:=h1 (by omega)
 injection e with e
 injection e with e1 e2
 subst e1 e2
 refine⟨b,0,fun _=>rfl,fun i hi=>?_⟩
 rw[hl'] at hi
 have h3:=h2 i (by omega)
 rw[renK_get t (by omega) hi] at h3
 rw[renK_get t (by omega) hi]
 have hoth:∀ c (v:Value),¬ (i=k∧c=1)→c < 8→w.cell? ⟨b,0+i*8+c,none⟩=some v→(w.setCell ⟨b,k*8+1,none⟩ (.string t)).cell? ⟨b,0+i*8+c,none⟩=some v:=fun c v hc h8 hv=>by
  rw[zK _ _ _ _ (by intro e;injection e with _ e2;omega)]
  exact hv
 by_cases hik:i=k
 ·subst hik
  rw[if_neg (Nat.lt_irrefl _)] at h3
  rw[if_pos (Nat.lt_succ_self _)]
  refine⟨hoth 0 _ (by omega) (by omega) h3.c0,?_,hoth 2 _ (by omega) (by omega) h3.c2,hoth 3 _ (by omega) (by omega) h3.c3,hoth 4 _ (by omega) (by omega) h3.c4,hoth 5 _ (by omega) (by omega) h3.c5,hoth 6 _ (by omega) (by omega) h3.c6,hoth 7 _ (by omega) (by omega) h3.c7,h3.rd⟩
  rw[Nat.zero_add]
  have:=h3.c1
  rw[Nat.zero_add] at this
  exact zL _ _ _ (by rw[this];rfl)
 ·have e3:(if i < k+1 then { l[i] with name:=t } else l[i])=(if i < k then { l[i] with name:=t } else l[i]):=by
   by_cases h4:i < k
   ·rw[if_pos h4,if_pos (by omega)]
   ·rw[if_neg h4,if_neg (by omega)]
  rw[e3]
  exact⟨hoth 0 _ (by omega) (by omega) h3.c0,hoth 1 _ (by omega) (by omega) h3.c1,hoth 2 _ (by omega) (by omega) h3.c2,hoth 3 _ (by omega) (by omega) h3.c3,hoth 4 _ (by omega) (by omega) h3.c4,hoth 5 _ (by omega) (by omega) h3.c5,hoth 6 _ (by omega) (by omega) h3.c6,hoth 7 _ (by omega) (by omega) h3.c7,h3.rd⟩
end Go.Proofs.YtbomggfklfbnkaaGreatDoor
theorem Go.RX.wp_appS {P:Go.Program} {o:Go.Oper} {a:Go.Act} {w:Go.World} {K:Go.Act→Go.World→Prop} {Q:Go.Exit→Go.Act→Go.World→Prop} {t e:Go.TypeId} {z:Go.Value} {size bytes:Nat} (E:Go.RX.ElemOf P t e z size bytes) (s x:Go.Operand)
  (ho:o.op=.call { callee:=.builtin .append,args:=#[s,x],argTypes:=#[t,t] }) (base:Nat)
  (v:Go.Value) (n:Nat) (xs:List Go.Value) (hown:w.ownsRow base e size v n xs) (hs:a.eval s=v)
  (ad:Go.Addr) (m mc:Nat) (news:List Go.Value) (hx:a.eval x=.slice (some ad) m mc) (hc:news.length=m*size) (hnews:∀ j u,news[j]?=some u→w.cell? (ad.add j)=some u) (h1:∀ u∈news,u.oneCell'=true)
  (hbytes:(n+m)*bytes≤140737488355328) (hn:n+m≤140737488355328) (hbase:base≤w.heap.size)
  (h:∀ v' w',w'.ownsRow base e size v' (n+m) (xs ++ news)→Go.RowKit.Below base w w'→w.grownBy w' v.ownBlock→(v'.ownBlock=v.ownBlock∨v'.ownBlock=some w.heap.size)→K (a.put o.dst v') w'):o.wp P a w K Q:=by
 obtain⟨i0,hi,hz,hsize,hby⟩:=Go.info_parts E.hi
 subst hs
 obtain⟨v',w',hrun,h2,h3,_,h5⟩:=Go.run_append_own_at (P:=P) w base t o.type e i0 z size bytes E.ht hi hz hsize hby E.hz E.pos _ n xs hown ad m mc news hc hnews h1 (by unfold Go.maxLen;omega) hbytes hbase
 unfold Go.Oper.wp Go.execOp
 simp only[ho,Go.resolve,Go.invoke,Go.builtin,Go.Sem.run_bind,Go.Sem.run_pure,Go.Result.andThen_ok,List.map_toArray,List.map_cons,List.map_nil,hx,hrun]
 exact h v' w' h2 ((Go.RowKit.Below.refl _ _).grown h3 hbase (fun k hk=>(hown.lt k hk).1)) h3 h5
theorem Go.RX.wpl_appS {P:Go.Program} {ops:Array Go.Oper} {rest:List Go.Oper} {o:Go.Oper} {a:Go.Act} {w:Go.World} {Q:Go.Exit→Go.Act→Go.World→Prop} {t e:Go.TypeId} {z:Go.Value} {size bytes:Nat} (hgd:o.guard=none) (E:Go.RX.ElemOf P t e z size bytes) (s x:Go.Operand)
  (ho:o.op=.call { callee:=.builtin .append,args:=#[s,x],argTypes:=#[t,t] }) (base:Nat)
  (v:Go.Value) (n:Nat) (xs:List Go.Value) (hown:w.ownsRow base e size v n xs) (hs:a.eval s=v)
  (ad:Go.Addr) (m mc:Nat) (news:List Go.Value) (hx:a.eval x=.slice (some ad) m mc) (hc:news.length=m*size) (hnews:∀ j u,news[j]?=some u→w.cell? (ad.add j)=some u) (h1:∀ u∈news,u.oneCell'=true)
  (hbytes:(n+m)*bytes≤140737488355328) (hn:n+m≤140737488355328) (hbase:base≤w.heap.size)
  (h:∀ v' w',w'.ownsRow base e size v' (n+m) (xs ++ news)→Go.RowKit.Below base w w'→w.grownBy w' v.ownBlock→(v'.ownBlock=v.ownBlock∨v'.ownBlock=some w.heap.size)→Go.wpList P ops Q rest (a.put o.dst v') w'):Go.wpList P ops Q (o :: rest) a w:=by
 refine Go.wpList_plain hgd fun K hK=>?_
 exact Go.RX.wp_appS E s x ho base v n xs hown hs ad m mc news hx hc hnews h1 hbytes hn hbase (fun v' w' a b c d=>hK _ _ (h v' w' a b c d))
namespace Go.Proofs.YtbomggfklfbnkaaGreatDoor
open Go.RowKit Go.Grid
theorem vec_news {w:World} {b o:Nat} {zs:List Int} (h:∀ k (h:k < zs.length),w.cell? ⟨b,o+k,none⟩=some (.int .i64 zs[k])):∀ j u,(zs.map (Value.int .i64))[j]?=some u→w.cell? ((⟨b,o,none⟩:Addr).add j)=some u:=by
 intro j u hj
 rw[List.getElem?_map] at hj
 by_cases hk:j < zs.length
 ·rw[List.getElem?_eq_getElem hk] at hj
  simp only[Option.map_some,Option.some.injEq] at hj
  subst hj
  rw[Addr.add_lit];exact h j hk
 ·rw[List.getElem?_eq_none (by omega)] at hj;cases hj
end Go.Proofs.YtbomggfklfbnkaaGreatDoor
theorem Go.RX.run_appendZ {P:Go.Program} (w:Go.World) (t ty e:Go.TypeId) (i:Go.TypeInfo) (ht:P.underlying t=some (.slice e)) (hi:P.info? e=some i) (p q:Option Go.Addr) (n cap c:Nat) (base:Nat) (size:Nat) (xs:List Go.Value) (hown:w.ownsRow base e size (.slice p n cap) n xs) :
  (Go.Builtin.append_ #[t,t] ty #[.slice p n cap,.slice q 0 c]).run P w=.ok (.slice p n cap) w:=by
 have hs:Go.Src P i.size t (.slice q 0 c) 0 [] w:=by
  cases q with
  |none=>exact Go.Src.ofNil w ht c
  |some a=>exact Go.Src.ofSlice w ht a 0 c [] (by simp) (by simp) (by simp)
 have hnc:n≤cap:=by
  rcases hown.2 with ⟨h1,h2⟩|⟨g,cap',cur,h1,_,_,h4,_⟩
  ·simp at h1;omega
  ·simp at h1;omega
 cases p with
 |none=>simp[Go.Builtin.append_,Go.run_underlying ht,Go.sizeOf,Go.typeInfo,hi,hs.len,hs.cells,hnc]
 |some a=>simp[Go.Builtin.append_,Go.run_underlying ht,Go.sizeOf,Go.typeInfo,hi,hs.len,hs.cells,hnc,Go.storeCells]
theorem Go.RX.wpl_appA {P:Go.Program} {ops:Array Go.Oper} {rest:List Go.Oper} {o:Go.Oper} {a:Go.Act} {w:Go.World} {Q:Go.Exit→Go.Act→Go.World→Prop} {t e:Go.TypeId} {z:Go.Value} {size bytes:Nat} (hgd:o.guard=none) (E:Go.RX.ElemOf P t e z size bytes) (s x:Go.Operand)
  (ho:o.op=.call { callee:=.builtin .append,args:=#[s,x],argTypes:=#[t,t] }) (base:Nat)
  (p:Option Go.Addr) (n cap:Nat) (xs:List Go.Value) (hown:w.ownsRow base e size (.slice p n cap) n xs) (hs:a.eval s=.slice p n cap)
  (q:Option Go.Addr) (m mc:Nat) (news:List Go.Value) (hx:a.eval x=.slice q m mc) (hc:news.length=m*size) (hq:0 < m→∃ ad,q=some ad∧∀ j u,news[j]?=some u→w.cell? (ad.add j)=some u) (h1:∀ u∈news,u.oneCell'=true)
  (hbytes:(n+m)*bytes≤140737488355328) (hn:n+m≤140737488355328) (hbase:base≤w.heap.size)
  (h:∀ v' w',w'.ownsRow base e size v' (n+m) (xs ++ news)→Go.RowKit.Below base w w'→Go.wpList P ops Q rest (a.put o.dst v') w'):Go.wpList P ops Q (o :: rest) a w:=by
 rcases Nat.eq_zero_or_pos m with h0|h0
 ·subst h0
  have hne:news=[]:=by cases news with
   |nil=>rfl
   |cons u l=>simp at hc
  subst hne
  refine Go.wpList_plain hgd fun K hK=>?_
  obtain⟨i0,hi,_⟩:=Go.info_parts E.hi
  have hrun:=Go.RX.run_appendZ (P:=P) w t o.type e i0 E.ht hi p q n cap mc base size xs hown
  unfold Go.Oper.wp Go.execOp
  simp only[ho,Go.resolve,Go.invoke,Go.builtin,Go.Sem.run_bind,Go.Sem.run_pure,Go.Result.andThen_ok,List.map_toArray,List.map_cons,List.map_nil,hx,hs,hrun]
  exact hK _ _ (h _ _ (by rw[List.append_nil];exact hown) (Go.RowKit.Below.refl _ _))
 ·obtain⟨ad,rfl,hnews⟩:=hq h0
  exact Go.RX.wpl_appS hgd E s x ho base _ n xs hown hs ad m mc news hx hc hnews h1 hbytes hn hbase (fun v' w' a b _ _=>h v' w' a b)
namespace Go.Proofs.YtbomggfklfbnkaaGreatDoor
open Go.RowKit Go.Grid Go.Maps Go.Sort Go.Shelf Go.Chain
theorem VecR.news {w:World} {p:Option Addr} {L:List Rep} {m:Nat} (h:VecR w p L) (hm:L.length=m):0 < m→∃ ad,p=some ad∧∀ j u,(L.flatMap rpc)[j]?=some u→w.cell? (ad.add j)=some u:=by
 intro h0
 obtain⟨b,o,h1,h2⟩:=h
 refine⟨_,h1 (by omega),fun j u hj=>?_⟩
 have hlt:j < L.length*8:=by
  rw[←rps_len]
  exact (List.getElem?_eq_some_iff.1 hj).1
 have e:j=j / 8*8+j % 8:=by omega
 have hk:j / 8 < L.length:=by omega
 have h8:j % 8 < 8:=by omega
 rw[e,rps_get L _ hk _ h8] at hj
 rw[Addr.add_lit,e]
 have hr:=h2 _ hk
 generalize j / 8=k at *
 generalize j % 8=c at *
 rw[←zQ]
 match c,h8 with
 |0,_=>rw[←hj];exact hr.c0
 |1,_=>rw[←hj];exact hr.c1
 |2,_=>rw[←hj];exact hr.c2
 |3,_=>rw[←hj];exact hr.c3
 |4,_=>rw[←hj];exact hr.c4
 |5,_=>rw[←hj];exact hr.c5
 |6,_=>rw[←hj];exact hr.c6
 |7,_=>rw[←hj];exact hr.c7
theorem rpc_one {L:List Rep} (h:∀ r∈L,RdOk r):∀ u∈L.flatMap rpc,u.oneCell'=true:=by
 intro u hu
 rw[List.mem_flatMap] at hu
 obtain⟨r,hr,hu⟩:=hu
 obtain⟨q,m,c,e⟩:=h r hr
 simp only[rpc,List.mem_cons,List.not_mem_nil,or_false] at hu
 rcases hu with rfl|rfl|rfl|rfl|rfl|rfl|rfl|rfl<;>first|rfl|(rw[e];rfl)
theorem vec_newsP {w:World} {p:Option Addr} {zs:List Int} {m:Nat} (h:VecAt w p zs) (hm:zs.length=m):0 < m→∃ ad,p=some ad∧∀ j u,(zs.map (Value.int .i64))[j]?=some u→w.cell? (ad.add j)=some u:=by
 intro h0
 obtain⟨b,o,h1,h2⟩:=h
 exact⟨_,h1 (by omega),vec_news h2⟩
theorem own_empty (w:World) (e:TypeId) (size:Nat):(w.alloc (.cells #[] e)).ownsRow w.heap.size e size (.slice (some ⟨w.heap.size,0,none⟩) 0 0) 0 []:=
 ⟨by simp,.inr ⟨w.heap.size,0,#[],rfl,Nat.le_refl _,heap_alloc_new _ _,Nat.le_refl _,by simp,by simp,by simp⟩⟩
end Go.Proofs.YtbomggfklfbnkaaGreatDoor
