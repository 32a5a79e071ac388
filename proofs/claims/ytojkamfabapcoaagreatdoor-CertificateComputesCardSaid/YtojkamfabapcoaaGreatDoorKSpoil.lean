import Derived.Test.YtojkamfabapcoaaGreatDoorKLinV
import Derived.Test.YtojkamfabapcoaaGreatDoorKGenS
import Derived.Deep.AppendSrc
import Derived.Test.YtojkamfabapcoaaGreatDoorKCodes
import Derived.Test.YtojkamfabapcoaaGreatDoorLocate
import Derived.Test.YtojkamfabapcoaaGreatDoorKCells
set_option maxRecDepth 100000
set_option maxHeartbeats 8000000
set_option linter.unusedSimpArgs false
set_option linter.unusedVariables false
theorem Go.RX.wp_appS {P:Go.Program} {o:Go.Oper} {a:Go.Act} {w:Go.World} {K:Go.Act→Go.World→Prop} {Q:Go.Exit→Go.Act→Go.World→Prop} {t e:Go.TypeId} {z:Go.Value} {size bytes:Nat} (E:Go.RX.ElemOf P t e z size bytes) (s x:Go.Operand)
  (ho:o.op=.call { callee:=.builtin .append,args:=#[s,x],argTypes:=#[t,t] }) (base:Nat)
  (v:Go.Value) (n:Nat) (xs:List Go.Value) (hown:w.ownsRow base e size v n xs) (hs:a.eval s=v)
  (ad:Go.Addr) (m mc:Nat) (news:List Go.Value) (hx:a.eval x=.slice (some ad) m mc) (hc:news.length=m*size) (hnews:∀ j u,news[j]?=some u→w.cell? (ad.add j)=some u) (h1:∀ u∈news,u.oneCell'=true)
  (hbytes:(n+m)*bytes≤140737488355328) (hn:n+m≤140737488355328) (hbase:base≤w.heap.size)
  (h:∀ v' w',w'.ownsRow base e size v' (n+m) (xs ++ news)→Go.RowKit.Below base w w'→w.grownBy w' v.ownBlock→(v'.ownBlock=v.ownBlock∨v'.ownBlock=some w.heap.size)→K (a.put o.dst v') w'):o.wp P a w K Q:=by
 obtain⟨i0,hi,hz,hsize,hby⟩:=Go.info_parts E.hi
 subst hs
 obtain⟨v',w',hrun,h2,h3,_,h5⟩:=Go.run_append_own_at (P:=P) w base t o.type e i0 z size bytes E.ht hi hz hsize hby E.hz E.pos _ n xs hown ad m mc news hc hnews h1 (by unfold Go.maxLen;omega) hbytes hbase
 unfold Go.Oper.wp Go.execOp
 simp only[ho,Go.resolve,Go.invoke,Go.builtin,Go.Sem.run_bind,Go.Sem.run_pure,Go.Result.andThen_ok,List.map_toArray,List.map_cons,List.map_nil,hx,hrun]
 exact h v' w' h2 ((Go.RowKit.Below.refl _ _).grown h3 hbase (fun k hk=>(hown.lt k hk).1)) h3 h5
theorem Go.RX.wpl_appS {P:Go.Program} {ops:Array Go.Oper} {rest:List Go.Oper} {o:Go.Oper} {a:Go.Act} {w:Go.World} {Q:Go.Exit→Go.Act→Go.World→Prop} {t e:Go.TypeId} {z:Go.Value} {size bytes:Nat} (hgd:o.guard=none) (E:Go.RX.ElemOf P t e z size bytes) (s x:Go.Operand)
  (ho:o.op=.call { callee:=.builtin .append,args:=#[s,x],argTypes:=#[t,t] }) (base:Nat)
  (v:Go.Value) (n:Nat) (xs:List Go.Value) (hown:w.ownsRow base e size v n xs) (hs:a.eval s=v)
  (ad:Go.Addr) (m mc:Nat) (news:List Go.Value) (hx:a.eval x=.slice (some ad) m mc) (hc:news.length=m*size) (hnews:∀ j u,news[j]?=some u→w.cell? (ad.add j)=some u) (h1:∀ u∈news,u.oneCell'=true)
  (hbytes:(n+m)*bytes≤140737488355328) (hn:n+m≤140737488355328) (hbase:base≤w.heap.size)
  (h:∀ v' w',w'.ownsRow base e size v' (n+m) (xs ++ news)→Go.RowKit.Below base w w'→w.grownBy w' v.ownBlock→(v'.ownBlock=v.ownBlock∨v'.ownBlock=some w.heap.size)→Go.wpList P ops Q rest (a.put o.dst v') w'):Go.wpList P ops Q (o :: rest) a w:=by
 refine Go.wpList_plain hgd fun K hK=>?_
 exact Go.RX.wp_appS E s x ho base v n xs hown hs ad m mc news hx hc hnews h1 hbytes hn hbase (fun v' w' a b c d=>hK _ _ (h v' w' a b c d))
namespace Go.Proofs.YtojkamfabapcoaaGreatDoor
open Go.RowKit Go.Grid
theorem vec_news {w:World} {b o:Nat} {zs:List Int} (h:∀ k (h:k < zs.length),w.cell? ⟨b,o+k,none⟩=some (.int .i64 zs[k])):∀ j u,(zs.map (Value.int .i64))[j]?=some u→w.cell? ((⟨b,o,none⟩:Addr).add j)=some u:=by
 intro j u hj
 rw[List.getElem?_map] at hj
 by_cases hk:j < zs.length
 ·rw[List.getElem?_eq_getElem hk] at hj
  simp only[Option.map_some,Option.some.injEq] at hj
  subst hj
  rw[Addr.add_lit];exact h j hk
 ·rw[List.getElem?_eq_none (by omega)] at hj;cases hj
end Go.Proofs.YtojkamfabapcoaaGreatDoor
theorem Go.RX.run_append0 {P:Go.Program} (w:Go.World) (t ty e:Go.TypeId) (i:Go.TypeInfo) (ht:P.underlying t=some (.slice e)) (hi:P.info? e=some i) (q:Option Go.Addr) (c:Nat) :
  (Go.Builtin.append_ #[t,t] ty #[.slice none 0 0,.slice q 0 c]).run P w=.ok (.slice none 0 0) w:=by
 have hs:Go.Src P i.size t (.slice q 0 c) 0 [] w:=by
  cases q with
  |none=>exact Go.Src.ofNil w ht c
  |some a=>exact Go.Src.ofSlice w ht a 0 c [] (by simp) (by simp) (by simp)
 simp[Go.Builtin.append_,Go.run_underlying ht,Go.sizeOf,Go.typeInfo,hi,hs.len,hs.cells]
theorem Go.RX.wpl_clone {P:Go.Program} {ops:Array Go.Oper} {rest:List Go.Oper} {o:Go.Oper} {a:Go.Act} {w:Go.World} {Q:Go.Exit→Go.Act→Go.World→Prop} {t e:Go.TypeId} {z:Go.Value} {size bytes:Nat} (hgd:o.guard=none) (E:Go.RX.ElemOf P t e z size bytes) (s x:Go.Operand)
  (ho:o.op=.call { callee:=.builtin .append,args:=#[s,x],argTypes:=#[t,t] }) (base:Nat) (hs:a.eval s=.slice none 0 0)
  (q:Option Go.Addr) (m mc:Nat) (news:List Go.Value) (hx:a.eval x=.slice q m mc) (hc:news.length=m*size) (hq:0 < m→∃ ad,q=some ad∧∀ j u,news[j]?=some u→w.cell? (ad.add j)=some u) (h1:∀ u∈news,u.oneCell'=true)
  (hbytes:m*bytes≤140737488355328) (hn:m≤140737488355328) (hbase:base≤w.heap.size)
  (h:∀ v' w',w'.ownsRow base e size v' m news→(m=0→v'=.slice none 0 0)→Go.RowKit.Below base w w'→w.grownBy w' none→Go.wpList P ops Q rest (a.put o.dst v') w'):Go.wpList P ops Q (o :: rest) a w:=by
 rcases Nat.eq_zero_or_pos m with h0|h0
 ·subst h0
  have hne:news=[]:=by cases news with
   |nil=>rfl
   |cons u l=>simp at hc
  subst hne
  refine Go.wpList_plain hgd fun K hK=>?_
  obtain⟨i0,hi,_⟩:=Go.info_parts E.hi
  have hrun:=Go.RX.run_append0 (P:=P) w t o.type e i0 E.ht hi q mc
  unfold Go.Oper.wp Go.execOp
  simp only[ho,Go.resolve,Go.invoke,Go.builtin,Go.Sem.run_bind,Go.Sem.run_pure,Go.Result.andThen_ok,List.map_toArray,List.map_cons,List.map_nil,hx,hs,hrun]
  exact hK _ _ (h _ _ (Go.World.ownsRow_nil _ _ _ _) (fun _=>rfl) (Go.RowKit.Below.refl _ _) (Go.World.grownBy.refl _ _))
 ·obtain⟨ad,rfl,hcell⟩:=hq h0
  refine Go.RX.wpl_appS hgd E s x ho base (.slice none 0 0) 0 [] (Go.World.ownsRow_nil _ _ _ _) hs ad m mc news hx hc hcell h1 (by rw[Nat.zero_add];exact hbytes) (by omega) hbase (fun v' w' a b c _=>h v' w' ?_ (fun hz=>by omega) b c)
  rw[Nat.zero_add,List.nil_append] at a
  exact a
namespace Go.Proofs.YtojkamfabapcoaaGreatDoor
open Go.RowKit Go.Grid
theorem VsAt.set {w:World} {R:Nat} {vs:List Value} (h:VsAt w R vs) (k:Nat) (v:Value):VsAt (w.setCell ⟨R,k,none⟩ v) R (vs.set k v):=fun j hj=>by
 rw[List.length_set] at hj
 obtain⟨h1,h2⟩:=h j hj
 refine⟨?_,by rw[World.frozen?_setCell];exact h2⟩
 by_cases e:k=j
 ·subst e
  rw[zL _ _ _ (by rw[h1];rfl),List.getElem_set_self]
 ·rw[zK _ _ _ _ (by simp[e]),h1,List.getElem_set_ne e]
theorem VsAt.below {w w':World} {R:Nat} {vs:List Value} (h:VsAt w R vs) (hb:Below w.heap.size w w'):VsAt w' R vs:=fun k hk=>by
 obtain⟨h1,h2⟩:=h k hk
 have hl:=zM _ _ h1
 exact⟨zP hb h1,(hb.frozen (p:=⟨R,k,none⟩) hl).trans h2⟩
theorem VsAt.four {w:World} {R:Nat} {a b c d:Value} (h:VsAt w R [a,b,c,d]):(w.cell? ⟨R,0,none⟩=some a∧w.cell? ⟨R,1,none⟩=some b∧w.cell? ⟨R,2,none⟩=some c∧w.cell? ⟨R,3,none⟩=some d)∧w.frozen? ⟨R,0,none⟩=false∧w.frozen? ⟨R,1,none⟩=false∧w.frozen? ⟨R,2,none⟩=false∧w.frozen? ⟨R,3,none⟩=false:=
 ⟨⟨(h 0 (by simp)).1,(h 1 (by simp)).1,(h 2 (by simp)).1,(h 3 (by simp)).1⟩,(h 0 (by simp)).2,(h 1 (by simp)).2,(h 2 (by simp)).2,(h 3 (by simp)).2⟩
theorem VsAt.mk4 {w:World} {R:Nat} {a b c d:Value} (h:w.cell? ⟨R,0,none⟩=some a∧w.cell? ⟨R,1,none⟩=some b∧w.cell? ⟨R,2,none⟩=some c∧w.cell? ⟨R,3,none⟩=some d) (hf:∀ k,w.frozen? ⟨R,k,none⟩=false):VsAt w R [a,b,c,d]:=fun k hk=>by
 match k,hk with
 |0,_=>exact⟨h.1,hf 0⟩
 |1,_=>exact⟨h.2.1,hf 1⟩
 |2,_=>exact⟨h.2.2.1,hf 2⟩
 |3,_=>exact⟨h.2.2.2,hf 3⟩
 |k+4,hk=>simp at hk;omega
def encI (c:Int × Int):List Value:=[.int .i64 c.1,.int .i64 c.2]
def ShV (w:World) (base:Nat) (v:Value) (S:List (Int × Int)):Prop:=w.ownsRow base 90 2 v S.length (S.flatMap encI)
theorem encI_len (S:List (Int × Int)):(S.flatMap encI).length=S.length*2:=by
 induction S with
 |nil=>rfl
 |cons c S ih=>simp[List.flatMap_cons,encI] at ih ⊢;omega
theorem encI_get:∀ (C:List (Int × Int)) (m:Nat) (h:m < C.length) (j:Nat),j < 2→(C.flatMap encI)[m*2+j]?=(encI C[m])[j]?
 |p :: L,0,h,j,hj=>by
  simp only[List.flatMap_cons,Nat.zero_mul,Nat.zero_add]
  rw[List.getElem?_append_left (by simp[encI];omega)];rfl
 |p :: L,m+1,h,j,hj=>by
  have ih:=encI_get L m (by simpa using h) j hj
  simp only[List.flatMap_cons]
  rw[List.getElem?_append_right (by simp[encI];omega),show (m+1)*2+j-(encI p).length=m*2+j by simp[encI];omega,ih];rfl
theorem encI_one (S:List (Int × Int)):∀ u∈S.flatMap encI,u.oneCell'=true:=fun u hu=>by
 obtain⟨c,_,hc⟩:=List.mem_flatMap.1 hu
 simp[encI] at hc
 rcases hc with rfl|rfl<;>rfl
theorem ShV.form {w:World} {base:Nat} {v:Value} {S:List (Int × Int)} (h:ShV w base v S):∃ p cap b,v=.slice p S.length cap∧S.length≤cap∧(0 < S.length→p=some ⟨b,0,none⟩∧base≤b∧b < w.heap.size)∧
  (∀ k (h:k < S.length),w.cell? ⟨b,k*2,none⟩=some (.int .i64 S[k].1)∧w.cell? ⟨b,k*2+1,none⟩=some (.int .i64 S[k].2))∧(0 < S.length→∀ j,w.frozen? ⟨b,j,none⟩=false):=by
 rcases Nat.eq_zero_or_pos S.length with h0|h0
 ·obtain⟨p,cap,rfl,hc⟩:=own_slice h
  exact⟨p,cap,0,rfl,hc,fun hh=>by omega,fun k hk=>by omega,fun hh=>by omega⟩
 ·obtain⟨g,cap,cur,rfl,hc,hb,hg⟩:=own_some h h0
  refine⟨_,cap,g,rfl,hc,fun _=>⟨rfl,hb,(World.ownsRow.lt h g rfl).2⟩,fun k hk=>⟨?_,?_⟩,fun _ j=>World.ownsRow.frozenAt h j⟩
  ·have:=World.ownsRow.cellAt h (k*2) (by omega)
   have e:=encI_get S k hk 0 (by omega)
   rw[Nat.add_zero] at e
   rw[this,e];rfl
  ·have:=World.ownsRow.cellAt h (k*2+1) (by omega)
   rw[this,encI_get S k hk 1 (by omega)];rfl
theorem ShV.own {w:World} {base:Nat} {v:Value} {S:List (Int × Int)} (h:ShV w base v S):∃ q cap,v=.slice q S.length cap∧S.length≤cap∧ShOwn w base q S:=by
 obtain⟨p,cap,b,rfl,hc,hp,hcell,_⟩:=h.form
 exact⟨p,cap,rfl,hc,b,hp,hcell⟩
theorem ShOwn.news {w:World} {base:Nat} {q:Option Addr} {S:List (Int × Int)} (h:ShOwn w base q S):0 < S.length→∃ ad,q=some ad∧∀ j u,(S.flatMap encI)[j]?=some u→w.cell? (ad.add j)=some u:=by
 intro h0
 obtain⟨b,h1,h2⟩:=h
 refine⟨⟨b,0,none⟩,(h1 h0).1,fun j u hj=>?_⟩
 have hjl:j < S.length*2:=by
  rw[←encI_len]
  exact Classical.byContradiction fun hh=>by rw[List.getElem?_eq_none (by omega)] at hj;cases hj
 have hd:j=j / 2*2+j % 2:=by omega
 have hk:j / 2 < S.length:=by omega
 rw[Addr.add_lit,Nat.zero_add]
 have e:=encI_get S (j / 2) hk (j % 2) (by omega)
 rw[←hd] at e
 rw[e] at hj
 obtain⟨c1,c2⟩:=h2 (j / 2) hk
 rcases Nat.mod_two_eq_zero_or_one j with hm|hm
 ·rw[hm] at hj
  simp[encI] at hj
  rw[show j=j / 2*2 by omega,←hj];exact c1
 ·rw[hm] at hj
  simp[encI] at hj
  rw[show j=j / 2*2+1 by omega,←hj];exact c2
theorem ShOwn.setN {w:World} {base b:Nat} {S:List (Int × Int)} (h:ShOwn w base (some ⟨b,0,none⟩) S) {k:Nat} (hk:k < S.length) (x:Int):ShOwn (w.setCell ⟨b,k*2,none⟩ (.int .i64 x)) base (some ⟨b,0,none⟩) (S.set k (x,S[k].2)):=by
 obtain⟨b',h1,h2⟩:=h
 obtain⟨e,hb1,hb2⟩:=h1 (by omega)
 injection e with e;injection e with e;subst e
 refine⟨b,fun _=>⟨rfl,hb1,by rw[World.size_setCell];exact hb2⟩,fun j hj=>?_⟩
 rw[List.length_set] at hj
 obtain⟨c1,c2⟩:=h2 j hj
 by_cases e:k=j
 ·subst e
  rw[List.getElem_set_self,zL _ _ _ (by rw[c1];rfl),zK _ _ _ _ (by simp)]
  exact⟨rfl,c2⟩
 ·rw[List.getElem_set_ne e,zK _ _ _ _ (by simp<;>omega),zK _ _ _ _ (by simp<;>omega)]
  exact⟨c1,c2⟩
theorem ShOwn.setW {w:World} {base b:Nat} {S:List (Int × Int)} (h:ShOwn w base (some ⟨b,0,none⟩) S) {k:Nat} (hk:k < S.length) (x:Int):ShOwn (w.setCell ⟨b,k*2+1,none⟩ (.int .i64 x)) base (some ⟨b,0,none⟩) (S.set k (S[k].1,x)):=by
 obtain⟨b',h1,h2⟩:=h
 obtain⟨e,hb1,hb2⟩:=h1 (by omega)
 injection e with e;injection e with e;subst e
 refine⟨b,fun _=>⟨rfl,hb1,by rw[World.size_setCell];exact hb2⟩,fun j hj=>?_⟩
 rw[List.length_set] at hj
 obtain⟨c1,c2⟩:=h2 j hj
 by_cases e:k=j
 ·subst e
  rw[List.getElem_set_self,zK _ _ _ _ (by simp),zL _ _ _ (by rw[c2];rfl)]
  exact⟨c1,rfl⟩
 ·rw[List.getElem_set_ne e,zK _ _ _ _ (by simp<;>omega),zK _ _ _ _ (by simp<;>omega)]
  exact⟨c1,c2⟩
theorem spoilrow_any (w:World) (g b:Nat) (L:List Int) (i:Nat) (h:CodesAt w g b L i) (r:Rw) (q:Option Addr) (cap base:Nat) (hS:ShOwn w base q r.sh) (hc:r.sh.length≤cap) (hl:r.sh.length≤100000) :
  Calls Tryz.prog 54 #[.pointer (some ⟨g,0,none⟩),rwv r q cap] w fun e w'=>∃ r' q' cap',e=.returned (rwv r' q' cap')∧r'.sh.length≤cap'∧r'.sh.length≤2*r.sh.length∧ShOwn w' w.heap.size q' r'.sh∧w.grownBy w' (some g)∧∃ j,CodesAt w' g b L j:=by
 have hrw:Hid (rwv r q cap=.agg #[.slice q r.sh.length cap,.int .i64 r.value,.int .i64 r.weight,.int .i64 r.report]):=zN rfl
 rw[hrw.out]
 obtain⟨S,rv,rw',rr⟩:=r
 dsimp only at hS hc hl ⊢
 have hg:=h.lt
 have hbl:0 < L.length→b < w.heap.size:=fun h0=>h.ltb h0
 have hnl:(S.flatMap encI).length=S.length*2:=encI_len S
 have hby:S.length*16≤140737488355328:=by omega
 have hn4:S.length≤140737488355328:=by omega
 clear hrw
 go_enter Tryz.func54,Tryz.ntmps54
 go_wp2_with (at_builtin;refine Hid.out ?_)
 refine zN ?_
 refine RX.wpl_clone (by rfl) elSh _ _ (by rfl) (w.heap.size+2) (by rfl) q S.length cap (S.flatMap encI) (by rfl) hnl (ShOwn.news (hS.below (by repeat (first|(with_reducible first|assumption|exact zBr _ _|refine zBs ?_ (by first|omega|(simp<;>omega)) _|refine zBa ?_ (by first|omega|(simp<;>omega)) _|apply zBd)|assumption)))) (encI_one S) hby hn4 (by simp) ?_
 intro v1 w1 hown hnil hb1 hg1
 obtain⟨Rb,hRb⟩:∃ Rb,Rb=w.heap.size:=⟨_,rfl⟩
 have hVR:VsAt w1 Rb [.slice q S.length cap,.int .i64 rv,.int .i64 rw',.int .i64 rr]:=by
  rw[hRb]
  refine VsAt.below (w:=(w.alloc (.cells #[.slice q S.length cap,.int .i64 rv,.int .i64 rw',.int .i64 rr] 45)).alloc (.cells #[.slice none 0 0,.int .i64 0,.int .i64 0,.int .i64 0] 45)) (VsAt.mk4 ⟨(by simp[zO,zJ,zQ]),(by simp[zO,zJ,zQ]),(by simp[zO,zJ,zQ]),(by simp[zO,zJ,zQ])⟩ (fun k=>by simp)) (by simpa using hb1)
 have hVZ:VsAt w1 (Rb+1) [.slice none 0 0,.int .i64 0,.int .i64 0,.int .i64 0]:=by
  rw[hRb]
  refine VsAt.below (w:=(w.alloc (.cells #[.slice q S.length cap,.int .i64 rv,.int .i64 rw',.int .i64 rr] 45)).alloc (.cells #[.slice none 0 0,.int .i64 0,.int .i64 0,.int .i64 0] 45)) (VsAt.mk4 ⟨(by simp[zO,zJ,zQ]),(by simp[zO,zJ,zQ]),(by simp[zO,zJ,zQ]),(by simp[zO,zJ,zQ])⟩ (fun k=>by simp)) (by simpa using hb1)
 have hB0:Below w.heap.size w w1:=Below.trans (show Below w.heap.size w ((w.alloc (.cells #[.slice q S.length cap,.int .i64 rv,.int .i64 rw',.int .i64 rr] 45)).alloc (.cells #[.slice none 0 0,.int .i64 0,.int .i64 0,.int .i64 0] 45)) from (by repeat (first|(with_reducible first|assumption|exact zBr _ _|refine zBs ?_ (by first|omega|(simp<;>omega)) _|refine zBa ?_ (by first|omega|(simp<;>omega)) _|apply zBd)|assumption))) (hb1.mono (by omega))
 have hG:w.grownBy w1 (some g):=grw_below hB0 _
 have hC:=h.below hB0
 obtain⟨qs,cs,rfl,hcs⟩:=own_slice hown
 have hgR:g < Rb:=by omega
 have hbR:0 < L.length→b < Rb:=fun h0=>by have:=hbl h0;omega
 have hgn:g≠Rb:=by omega
 have hbn:0 < L.length→b≠Rb:=fun h0=>by have:=hbR h0;omega
 have hgn1:g≠Rb+1:=by omega
 have hbn1:0 < L.length→b≠Rb+1:=fun h0=>by have:=hbR h0;omega
 rw[←hRb] at hown ⊢
 have HRB:=zN hRb
 have HNIL:=zN hnil
 clear hnil
 have HL2:Hid (S.length≤100000):=zN hl
 clear hb1 hg1 hB0 h hS hc hnl hby hn4 hRb hbl hg
 have hVR2:=hVR.set 0 (.slice qs S.length cs)
 simp only[List.set_cons_zero] at hVR2
 have hVZ2:=hVZ.grown (grownBy_setCell w1 Rb 0 (.slice qs S.length cs)) (by simp)
 have hown2:ShV (w1.setCell ⟨Rb,0,none⟩ (.slice qs S.length cs)) (Rb+2) (.slice qs S.length cs) S:=World.ownsRow.kept hown (grownBy_setCell w1 Rb 0 (.slice qs S.length cs)) (by
  cases e:(Value.slice qs S.length cs).ownBlock with
  |none=>exact .inl rfl
  |some k=>exact .inr (fun hh=>by have:=(World.ownsRow.lt hown k e).1;injection hh with hh;omega))
 have hG2:w.grownBy (w1.setCell ⟨Rb,0,none⟩ (.slice qs S.length cs)) (some g):=grw_set hG (.inr (by have:=HRB.out;omega))
 have hC2:=hC.set1 hgn hbn 0 (.slice qs S.length cs)
 obtain⟨⟨r0,r1,r2,r3⟩,rf0,rf1,rf2,rf3⟩:=hVR.four
 go_wp2_with fail
 clear r0 r1 r2 r3 rf0 rf1 rf2 rf3 hVR hVZ hown hG hC
 generalize w1.setCell ⟨Rb,0,none⟩ (.slice qs S.length cs)=V1 at *
 clear w1
 refine (next_any _ g b L i 6 hC2 (by omega)).mono ?_
 rintro e w2 ⟨r,rfl,hr,hg2,j2,hC⟩
 have hVR:=hVR2.grown hg2 (by simp;omega)
 have hVZ:=hVZ2.grown hg2 (by simp;omega)
 have hown:ShV w2 (Rb+2) (.slice qs S.length cs) S:=World.ownsRow.kept hown2 hg2 (by
  cases e:(Value.slice qs S.length cs).ownBlock with
  |none=>exact .inl rfl
  |some k=>exact .inr (fun hh=>by have:=(World.ownsRow.lt hown2 k e).1;injection hh with hh;omega))
 have hG:=hG2.trans hg2
 clear hVR2 hVZ2 hown2 hG2 hC2 hg2
 clear V1
 have hr6:r=0∨r=1∨r=2∨r=3∨r=4∨r=5:=by omega
 clear hr
 rcases hr6 with rfl|rfl|rfl|rfl|rfl|rfl
 ·go_wp2_with fail
  refine (int_any w2 g b L j2 hC).mono ?_
  rintro e w3 ⟨x,rfl,hx1,hx2,hg3,j3,hC3⟩
  have hVR3:=(hVR.grown hg3 (by simp;omega))
  have hVRn:=hVR3.set 2 (.int .i64 x)
  simp only[List.set_cons_zero,List.set_cons_succ] at hVRn
  have hVZn:=(hVZ.grown hg3 (by simp;omega)).grown (grownBy_setCell w3 Rb 2 (.int .i64 x)) (by simp)
  have hownn:ShV w3 (Rb+2) (.slice qs S.length cs) S:=World.ownsRow.kept hown hg3 (by
   cases e:(Value.slice qs S.length cs).ownBlock with
   |none=>exact .inl rfl
   |some k=>exact .inr (fun hh=>by have:=(World.ownsRow.lt hown k e).1;injection hh with hh;omega))
  have hownm:ShV (w3.setCell ⟨Rb,2,none⟩ (.int .i64 x)) (Rb+2) (.slice qs S.length cs) S:=World.ownsRow.kept hownn (grownBy_setCell w3 Rb 2 (.int .i64 x)) (by
   cases e:(Value.slice qs S.length cs).ownBlock with
   |none=>exact .inl rfl
   |some k=>exact .inr (fun hh=>by have:=(World.ownsRow.lt hownn k e).1;injection hh with hh;omega))
  have hGn:w.grownBy (w3.setCell ⟨Rb,2,none⟩ (.int .i64 x)) (some g):=grw_set (hG.trans hg3) (.inr (by have:=HRB.out;omega))
  have hCn:=hC3.set1 hgn hbn 2 (.int .i64 x)
  clear hVR hVZ hown hG hC hownn hg3 hC3
  obtain⟨⟨r0,r1,r2,r3⟩,rf0,rf1,rf2,rf3⟩:=hVR3.four
  have HST:=zN (And.intro hVRn (And.intro hVZn (And.intro hownm (And.intro hGn hCn))))
  clear hVRn hVZn hownm hGn hCn hVR3
  obtain⟨hVR,hVZ,hown,hG,hC⟩:=HST.out
  obtain⟨⟨y0,y1,y2,y3⟩,-⟩:=hVR.four
  obtain⟨⟨z0,z1,z2,z3⟩,zf0,zf1,zf2,zf3⟩:=hVZ.four
  have hVZ4:=(((hVZ.set 0 (.slice qs S.length cs)).set 1 (.int .i64 rv)).set 2 (.int .i64 x)).set 3 (.int .i64 rr)
  simp only[List.set_cons_zero,List.set_cons_succ] at hVZ4
  obtain⟨⟨t0,t1,t2,t3⟩,-⟩:=hVZ4.four
  have hset:(w3.setCell ⟨Rb,2,none⟩ (.int .i64 x)).grownBy (((((w3.setCell ⟨Rb,2,none⟩ (.int .i64 x)).setCell ⟨Rb+1,0,none⟩ (.slice qs S.length cs)).setCell ⟨Rb+1,1,none⟩ (.int .i64 rv)).setCell ⟨Rb+1,2,none⟩ (.int .i64 x)).setCell ⟨Rb+1,3,none⟩ (.int .i64 rr)) (some (Rb+1)):=((((grownBy_setCell _ _ _ _).trans (grownBy_setCell _ _ _ _)).trans (grownBy_setCell _ _ _ _)).trans (grownBy_setCell _ _ _ _))
  have HSO:=zN (show ShOwn _ (Rb+2) qs S from (by obtain⟨q1,c1,e1,e2,e3⟩:=hown.own;injection e1 with e1 _ e4;subst e1;exact e3))
  have HGF:Hid (w.grownBy (((((w3.setCell ⟨Rb,2,none⟩ (.int .i64 x)).setCell ⟨Rb+1,0,none⟩ (.slice qs S.length cs)).setCell ⟨Rb+1,1,none⟩ (.int .i64 rv)).setCell ⟨Rb+1,2,none⟩ (.int .i64 x)).setCell ⟨Rb+1,3,none⟩ (.int .i64 rr)) (some g)):=zN (grw_set (grw_set (grw_set (grw_set hG (.inr (by have:=HRB.out;omega))) (.inr (by have:=HRB.out;omega))) (.inr (by have:=HRB.out;omega))) (.inr (by have:=HRB.out;omega)))
  have HCF:=zN ((((hC.set1 hgn1 hbn1 0 (.slice qs S.length cs)).set1 hgn1 hbn1 1 (.int .i64 rv)).set1 hgn1 hbn1 2 (.int .i64 x)).set1 hgn1 hbn1 3 (.int .i64 rr))
  have HT:=zN (And.intro t0 (And.intro t1 (And.intro t2 t3)))
  clear hVZ4 hVR hVZ hG hC t0 t1 t2 t3
  go_wp2
  obtain⟨t0,t1,t2,t3⟩:=HT.out
  refine bodyPost_ret (v:=.agg #[.slice qs S.length cs,.int .i64 rv,.int .i64 x,.int .i64 rr]) ?_ rfl ⟨⟨S,rv,x,rr⟩,qs,cs,rfl,hcs,by show S.length≤2*S.length;omega,(HSO.out.grown hset (fun k hk=>by injection hk with hk;omega)).mono (by have:=HRB.out;omega),HGF.out,j3,HCF.out⟩
  simp[results,Tryz.results54,go_sem,t0,t1,t2,t3]
 ·go_wp2_with fail
  refine (int_any w2 g b L j2 hC).mono ?_
  rintro e w3 ⟨x,rfl,hx1,hx2,hg3,j3,hC3⟩
  have hVR3:=(hVR.grown hg3 (by simp;omega))
  have hVRn:=hVR3.set 1 (.int .i64 x)
  simp only[List.set_cons_zero,List.set_cons_succ] at hVRn
  have hVZn:=(hVZ.grown hg3 (by simp;omega)).grown (grownBy_setCell w3 Rb 1 (.int .i64 x)) (by simp)
  have hownn:ShV w3 (Rb+2) (.slice qs S.length cs) S:=World.ownsRow.kept hown hg3 (by
   cases e:(Value.slice qs S.length cs).ownBlock with
   |none=>exact .inl rfl
   |some k=>exact .inr (fun hh=>by have:=(World.ownsRow.lt hown k e).1;injection hh with hh;omega))
  have hownm:ShV (w3.setCell ⟨Rb,1,none⟩ (.int .i64 x)) (Rb+2) (.slice qs S.length cs) S:=World.ownsRow.kept hownn (grownBy_setCell w3 Rb 1 (.int .i64 x)) (by
   cases e:(Value.slice qs S.length cs).ownBlock with
   |none=>exact .inl rfl
   |some k=>exact .inr (fun hh=>by have:=(World.ownsRow.lt hownn k e).1;injection hh with hh;omega))
  have hGn:w.grownBy (w3.setCell ⟨Rb,1,none⟩ (.int .i64 x)) (some g):=grw_set (hG.trans hg3) (.inr (by have:=HRB.out;omega))
  have hCn:=hC3.set1 hgn hbn 1 (.int .i64 x)
  clear hVR hVZ hown hG hC hownn hg3 hC3
  obtain⟨⟨r0,r1,r2,r3⟩,rf0,rf1,rf2,rf3⟩:=hVR3.four
  have HST:=zN (And.intro hVRn (And.intro hVZn (And.intro hownm (And.intro hGn hCn))))
  clear hVRn hVZn hownm hGn hCn hVR3
  obtain⟨hVR,hVZ,hown,hG,hC⟩:=HST.out
  obtain⟨⟨y0,y1,y2,y3⟩,-⟩:=hVR.four
  obtain⟨⟨z0,z1,z2,z3⟩,zf0,zf1,zf2,zf3⟩:=hVZ.four
  have hVZ4:=(((hVZ.set 0 (.slice qs S.length cs)).set 1 (.int .i64 x)).set 2 (.int .i64 rw')).set 3 (.int .i64 rr)
  simp only[List.set_cons_zero,List.set_cons_succ] at hVZ4
  obtain⟨⟨t0,t1,t2,t3⟩,-⟩:=hVZ4.four
  have hset:(w3.setCell ⟨Rb,1,none⟩ (.int .i64 x)).grownBy (((((w3.setCell ⟨Rb,1,none⟩ (.int .i64 x)).setCell ⟨Rb+1,0,none⟩ (.slice qs S.length cs)).setCell ⟨Rb+1,1,none⟩ (.int .i64 x)).setCell ⟨Rb+1,2,none⟩ (.int .i64 rw')).setCell ⟨Rb+1,3,none⟩ (.int .i64 rr)) (some (Rb+1)):=((((grownBy_setCell _ _ _ _).trans (grownBy_setCell _ _ _ _)).trans (grownBy_setCell _ _ _ _)).trans (grownBy_setCell _ _ _ _))
  have HSO:=zN (show ShOwn _ (Rb+2) qs S from (by obtain⟨q1,c1,e1,e2,e3⟩:=hown.own;injection e1 with e1 _ e4;subst e1;exact e3))
  have HGF:Hid (w.grownBy (((((w3.setCell ⟨Rb,1,none⟩ (.int .i64 x)).setCell ⟨Rb+1,0,none⟩ (.slice qs S.length cs)).setCell ⟨Rb+1,1,none⟩ (.int .i64 x)).setCell ⟨Rb+1,2,none⟩ (.int .i64 rw')).setCell ⟨Rb+1,3,none⟩ (.int .i64 rr)) (some g)):=zN (grw_set (grw_set (grw_set (grw_set hG (.inr (by have:=HRB.out;omega))) (.inr (by have:=HRB.out;omega))) (.inr (by have:=HRB.out;omega))) (.inr (by have:=HRB.out;omega)))
  have HCF:=zN ((((hC.set1 hgn1 hbn1 0 (.slice qs S.length cs)).set1 hgn1 hbn1 1 (.int .i64 x)).set1 hgn1 hbn1 2 (.int .i64 rw')).set1 hgn1 hbn1 3 (.int .i64 rr))
  have HT:=zN (And.intro t0 (And.intro t1 (And.intro t2 t3)))
  clear hVZ4 hVR hVZ hG hC t0 t1 t2 t3
  go_wp2
  obtain⟨t0,t1,t2,t3⟩:=HT.out
  refine bodyPost_ret (v:=.agg #[.slice qs S.length cs,.int .i64 x,.int .i64 rw',.int .i64 rr]) ?_ rfl ⟨⟨S,x,rw',rr⟩,qs,cs,rfl,hcs,by show S.length≤2*S.length;omega,(HSO.out.grown hset (fun k hk=>by injection hk with hk;omega)).mono (by have:=HRB.out;omega),HGF.out,j3,HCF.out⟩
  simp[results,Tryz.results54,go_sem,t0,t1,t2,t3]
 ·have hVRn:=hVR.set 0 (.slice none 0 0)
  simp only[List.set_cons_zero] at hVRn
  have hVZn:=hVZ.grown (grownBy_setCell w2 Rb 0 (.slice none 0 0)) (by simp)
  have hGn:w.grownBy (w2.setCell ⟨Rb,0,none⟩ (.slice none 0 0)) (some g):=grw_set hG (.inr (by have:=HRB.out;omega))
  have hCn:=hC.set1 hgn hbn 0 (.slice none 0 0)
  obtain⟨⟨r0,r1,r2,r3⟩,rf0,rf1,rf2,rf3⟩:=hVR.four
  have HST:=zN (And.intro hVRn (And.intro hVZn (And.intro hGn hCn)))
  clear hVRn hVZn hGn hCn hVR hVZ hG hC
  obtain⟨hVR,hVZ,hG,hC⟩:=HST.out
  obtain⟨⟨y0,y1,y2,y3⟩,-⟩:=hVR.four
  obtain⟨⟨z0,z1,z2,z3⟩,zf0,zf1,zf2,zf3⟩:=hVZ.four
  have hVZ4:=(((hVZ.set 0 (.slice none 0 0)).set 1 (.int .i64 rv)).set 2 (.int .i64 rw')).set 3 (.int .i64 rr)
  simp only[List.set_cons_zero,List.set_cons_succ] at hVZ4
  obtain⟨⟨t0,t1,t2,t3⟩,-⟩:=hVZ4.four
  have hset:(w2.setCell ⟨Rb,0,none⟩ (.slice none 0 0)).grownBy (((((w2.setCell ⟨Rb,0,none⟩ (.slice none 0 0)).setCell ⟨Rb+1,0,none⟩ (.slice none 0 0)).setCell ⟨Rb+1,1,none⟩ (.int .i64 rv)).setCell ⟨Rb+1,2,none⟩ (.int .i64 rw')).setCell ⟨Rb+1,3,none⟩ (.int .i64 rr)) (some (Rb+1)):=((((grownBy_setCell _ _ _ _).trans (grownBy_setCell _ _ _ _)).trans (grownBy_setCell _ _ _ _)).trans (grownBy_setCell _ _ _ _))
  have HSO:=zN (show ShOwn (w2.setCell ⟨Rb,0,none⟩ (.slice none 0 0)) (Rb+2) none ([]:List (Int × Int)) from ⟨0,fun hh=>absurd hh (by simp),fun k hk=>by simp at hk⟩)
  have HGF:Hid (w.grownBy (((((w2.setCell ⟨Rb,0,none⟩ (.slice none 0 0)).setCell ⟨Rb+1,0,none⟩ (.slice none 0 0)).setCell ⟨Rb+1,1,none⟩ (.int .i64 rv)).setCell ⟨Rb+1,2,none⟩ (.int .i64 rw')).setCell ⟨Rb+1,3,none⟩ (.int .i64 rr)) (some g)):=zN (grw_set (grw_set (grw_set (grw_set hG (.inr (by have:=HRB.out;omega))) (.inr (by have:=HRB.out;omega))) (.inr (by have:=HRB.out;omega))) (.inr (by have:=HRB.out;omega)))
  have HCF:=zN ((((hC.set1 hgn1 hbn1 0 (.slice none 0 0)).set1 hgn1 hbn1 1 (.int .i64 rv)).set1 hgn1 hbn1 2 (.int .i64 rw')).set1 hgn1 hbn1 3 (.int .i64 rr))
  have HT:=zN (And.intro t0 (And.intro t1 (And.intro t2 t3)))
  clear hVZ4 hVR hVZ hG hC t0 t1 t2 t3
  go_wp2
  obtain⟨t0,t1,t2,t3⟩:=HT.out
  refine bodyPost_ret (v:=.agg #[.slice none 0 0,.int .i64 rv,.int .i64 rw',.int .i64 rr]) ?_ rfl ⟨⟨[],rv,rw',rr⟩,none,0,rfl,Nat.le_refl _,Nat.zero_le _,(HSO.out.grown hset (fun k hk=>by injection hk with hk;omega)).mono (by have:=HRB.out;omega),HGF.out,j2,HCF.out⟩
  simp[results,Tryz.results54,go_sem,t0,t1,t2,t3]
 ·by_cases h0:0 < S.length
  ·have hd:decide ((S.length:Int) > 0)=true:=zDt (by omega)
   obtain⟨q1,c1,bs,e1,hc1,hp1,hcell1,hfz1⟩:=hown.form
   injection e1 with e1 _ e4
   subst e1
   subst e4
   obtain⟨rfl,hbs1,hbs2⟩:=hp1 h0
   have hbsR:¬ (bs=Rb):=by omega
   have hbsR1:¬ (bs=Rb+1):=by omega
   have hgbs:g≠bs:=by omega
   have hbbs:0 < L.length→b≠bs:=fun h0=>by have:=hbR h0;omega
   clear hcell1 hfz1 hp1
   obtain⟨⟨r0,r1,r2,r3⟩,rf0,rf1,rf2,rf3⟩:=hVR.four
   have hCd:=hC.below (show Below w2.heap.size w2 w2.drew from (by repeat (first|(with_reducible first|assumption|exact zBr _ _|refine zBs ?_ (by first|omega|(simp<;>omega)) _|refine zBa ?_ (by first|omega|(simp<;>omega)) _|apply zBd)|assumption)))
   go_wp2
   refine RY.region RX.fN (fun w'=>w'.cell? ⟨Rb,0,none⟩=some (.slice (some ⟨bs,0,none⟩) S.length cs)) (by kernel_rfl) (by kernel_rfl) (r0) (fun OPS HO QR hQR=>?_)
   repeat (refine zeY (fun R hR=>?_);(first|refine zaY (by first|rfl|(rw[HO.out];rfl)) (by simp only[zA,zB,zC,zD];rfl) ?_|refine zbY (by first|rfl|(rw[HO.out];rfl)) rfl (by first|exact .inl rfl|exact .inr rfl) (by simp only[zE,zF,zG,zH];rfl) (by simp only[zA,zB,zC,zD];rfl) ?_|refine zcY (by first|rfl|(rw[HO.out];rfl)) rfl rfl (by simp only[zE,zF,zG,zH];rfl) (by simp only[zA,zB,zC,zD];rfl) ?_|(refine zdY (by first|rfl|(rw[HO.out];rfl)) rfl rfl rfl ?_;apply zEx;apply zEx;refine⟨fun w' hS K hK=>?_,?_,?_⟩;(focus (have hS1:=hS;go_wp2;exact hK _ _ (by simp only[zl,zG,zH];first|exact zf (by omega)|exact zg (by omega)|exact zh (by omega)|exact zi (by omega)|exact zj (by omega)|exact zk (by omega)|exact RX.bneB _|rfl) rfl));(focus (simp only[zA,zB,zC,zD];rfl))));refine hR _ _ ?_;clear hR R)
   refine zeY (fun R hR=>?_)
   refine zgY (by first|rfl|(rw[HO.out];rfl)) rfl (fun K hK=>?_)
   go_wp2_with fail
   refine (next_any _ g b L j2 S.length hCd (by have:=HL2.out;omega)).mono ?_
   rintro e w3 ⟨ix,rfl,hix,hg3,j3,hC3⟩
   replace hg3:w2.grownBy w3 (some g):=⟨hg3.os,hg3.tape,hg3.output,hg3.size,hg3.block⟩
   have hixn:ix < S.length:=by omega
   have r03:=hg3.cell r0 (by simp;omega)
   refine hK _ _ ⟨.inr (r03),hR _ _ ?_⟩;clear hK K hR R
   repeat (refine zeY (fun R hR=>?_);(first|refine zaY (by first|rfl|(rw[HO.out];rfl)) (by simp only[zA,zB,zC,zD];rfl) ?_|refine zbY (by first|rfl|(rw[HO.out];rfl)) rfl (by first|exact .inl rfl|exact .inr rfl) (by simp only[zE,zF,zG,zH];rfl) (by simp only[zA,zB,zC,zD];rfl) ?_|refine zcY (by first|rfl|(rw[HO.out];rfl)) rfl rfl (by simp only[zE,zF,zG,zH];rfl) (by simp only[zA,zB,zC,zD];rfl) ?_|(refine zdY (by first|rfl|(rw[HO.out];rfl)) rfl rfl rfl ?_;apply zEx;apply zEx;refine⟨fun w' hS K hK=>?_,?_,?_⟩;(focus (have hS1:=hS;go_wp2;exact hK _ _ (by simp only[zl,zG,zH];first|exact zf (by omega)|exact zg (by omega)|exact zh (by omega)|exact zi (by omega)|exact zj (by omega)|exact zk (by omega)|exact RX.bneB _|rfl) rfl));(focus (simp only[zA,zB,zC,zD];rfl))));refine hR _ _ ?_;clear hR R)
   refine zeY (fun R hR=>?_)
   refine zgY (by first|rfl|(rw[HO.out];rfl)) rfl (fun K hK=>?_)
   go_wp2_with fail
   refine (int_any w3 g b L j3 hC3).mono ?_
   rintro e w4 ⟨x,rfl,hx1,hx2,hg4,j4,hC4⟩
   have r04:=hg4.cell r03 (by simp;omega)
   have hg24:=hg3.trans hg4
   have hown4:ShV w4 (Rb+2) (.slice (some ⟨bs,0,none⟩) S.length cs) S:=World.ownsRow.kept hown hg24 (by simp[Value.ownBlock];omega)
   obtain⟨q1,c1,b1,e1,hc1,hp1,hcell1,hfz1⟩:=hown4.form
   injection e1 with e1 _ e4
   clear e4 hc1
   have hb1s:=(hp1 h0).1
   rw[←e1] at hb1s
   injection hb1s with hb1s
   injection hb1s with hb1s
   subst hb1s
   have k1:=(hcell1 ix hixn).1
   have k2:=hfz1 h0 (ix*2)
   have HSX:=zN ((show ShOwn w4 (Rb+2) (some ⟨bs,0,none⟩) S from ⟨bs,fun _=>⟨rfl,hbs1,(hp1 h0).2.2⟩,hcell1⟩).setN hixn x)
   have hVR4:=(hVR.grown hg24 (by simp;omega)).grown (grownBy_setCell w4 bs (ix*2) (.int .i64 x)) (by simp;omega)
   have hVZ4:=(hVZ.grown hg24 (by simp;omega)).grown (grownBy_setCell w4 bs (ix*2) (.int .i64 x)) (by simp;omega)
   have hG4:w.grownBy (w4.setCell ⟨bs,ix*2,none⟩ (.int .i64 x)) (some g):=grw_set (hG.trans hg24) (.inr (by have:=HRB.out;omega))
   have hC5:=hC4.set1 hgbs hbbs (ix*2) (.int .i64 x)
   have HST:=zN (And.intro hVR4 (And.intro hVZ4 (And.intro hG4 hC5)))
   have hix0:(0:Int)≤(ix:Int):=by omega
   have hixI:(ix:Int) < (S.length:Int):=by omega
   obtain⟨sv,hsv⟩:∃ sv,sv=S[ix].1:=⟨_,rfl⟩
   rw[←hsv] at k1
   clear hVR4 hVZ4 hG4 hC5 hown4 hcell1 hfz1 hp1 hVR hVZ hown hG hC hCd hC3 hC4 hg24 hg3 hg4 e1 hsv hix
   refine hK _ _ ⟨.inr (r04),hR _ _ ?_⟩;clear hK K hR R
   repeat (refine zeY (fun R hR=>?_);(first|refine zaY (by first|rfl|(rw[HO.out];rfl)) (by simp only[zA,zB,zC,zD];rfl) ?_|refine zbY (by first|rfl|(rw[HO.out];rfl)) rfl (by first|exact .inl rfl|exact .inr rfl) (by simp only[zE,zF,zG,zH];rfl) (by simp only[zA,zB,zC,zD];rfl) ?_|refine zcY (by first|rfl|(rw[HO.out];rfl)) rfl rfl (by simp only[zE,zF,zG,zH];rfl) (by simp only[zA,zB,zC,zD];rfl) ?_|(refine zdY (by first|rfl|(rw[HO.out];rfl)) rfl rfl rfl ?_;apply zEx;apply zEx;refine⟨fun w' hS K hK=>?_,?_,?_⟩;(focus (have hS1:=hS;simp[Oper.wp,execOp,go_sem,hix0,hixI];exact hK _ _ (by simp only[zl,zG,zH];first|exact zf (by omega)|exact zg (by omega)|exact zh (by omega)|exact zi (by omega)|exact zj (by omega)|exact zk (by omega)|exact RX.bneB _|rfl) rfl));(focus (simp only[zA,zB,zC,zD];rfl))));refine hR _ _ ?_;clear hR R)
   refine zeY (fun R hR=>?_)
   refine zgY (by first|rfl|(rw[HO.out];rfl)) rfl (fun K hK=>?_)
   go_wp2
   first|refine⟨(by first|exact .inl rfl|exact .inl trivial|trivial),hR _ _ (RY.wpL_nil (hQR _ _ ?_))⟩|refine hR _ _ (RY.wpL_nil (hQR _ _ ?_))|refine hQR _ _ ?_
   (try clear hR);(try clear R);clear hQR QR HO OPS
   clear r0 r1 r2 r3 rf0 rf1 rf2 rf3 r03 r04 k1 k2
   obtain⟨hVR,hVZ,hG,hC⟩:=HST.out
   obtain⟨⟨r0,r1,r2,r3⟩,-⟩:=hVR.four
   obtain⟨⟨z0,z1,z2,z3⟩,zf0,zf1,zf2,zf3⟩:=hVZ.four
   have hVZ4:=(((hVZ.set 0 (.slice (some ⟨bs,0,none⟩) S.length cs)).set 1 (.int .i64 rv)).set 2 (.int .i64 rw')).set 3 (.int .i64 rr)
   simp only[List.set_cons_zero,List.set_cons_succ] at hVZ4
   obtain⟨⟨t0,t1,t2,t3⟩,-⟩:=hVZ4.four
   have hset:(w4.setCell ⟨bs,ix*2,none⟩ (.int .i64 x)).grownBy (((((w4.setCell ⟨bs,ix*2,none⟩ (.int .i64 x)).setCell ⟨Rb+1,0,none⟩ (.slice (some ⟨bs,0,none⟩) S.length cs)).setCell ⟨Rb+1,1,none⟩ (.int .i64 rv)).setCell ⟨Rb+1,2,none⟩ (.int .i64 rw')).setCell ⟨Rb+1,3,none⟩ (.int .i64 rr)) (some (Rb+1)):=((((grownBy_setCell _ _ _ _).trans (grownBy_setCell _ _ _ _)).trans (grownBy_setCell _ _ _ _)).trans (grownBy_setCell _ _ _ _))
   have HSO:=zN (HSX.out)
   have HGF:Hid (w.grownBy (((((w4.setCell ⟨bs,ix*2,none⟩ (.int .i64 x)).setCell ⟨Rb+1,0,none⟩ (.slice (some ⟨bs,0,none⟩) S.length cs)).setCell ⟨Rb+1,1,none⟩ (.int .i64 rv)).setCell ⟨Rb+1,2,none⟩ (.int .i64 rw')).setCell ⟨Rb+1,3,none⟩ (.int .i64 rr)) (some g)):=zN (grw_set (grw_set (grw_set (grw_set hG (.inr (by have:=HRB.out;omega))) (.inr (by have:=HRB.out;omega))) (.inr (by have:=HRB.out;omega))) (.inr (by have:=HRB.out;omega)))
   have HCF:=zN ((((hC.set1 hgn1 hbn1 0 (.slice (some ⟨bs,0,none⟩) S.length cs)).set1 hgn1 hbn1 1 (.int .i64 rv)).set1 hgn1 hbn1 2 (.int .i64 rw')).set1 hgn1 hbn1 3 (.int .i64 rr))
   have HT:=zN (And.intro t0 (And.intro t1 (And.intro t2 t3)))
   clear hVZ4 hVR hVZ hG hC t0 t1 t2 t3
   go_wp2
   obtain⟨t0,t1,t2,t3⟩:=HT.out
   refine bodyPost_ret (v:=.agg #[.slice (some ⟨bs,0,none⟩) S.length cs,.int .i64 rv,.int .i64 rw',.int .i64 rr]) ?_ rfl ⟨⟨(S.set ix (x,S[ix].2)),rv,rw',rr⟩,(some ⟨bs,0,none⟩),cs,by unfold rwv;simp only[List.length_set],by show (S.set ix (x,S[ix].2)).length≤cs;rw[List.length_set];exact hcs,by show (S.set ix (x,S[ix].2)).length≤2*S.length;rw[List.length_set];omega,(HSO.out.grown hset (fun k hk=>by injection hk with hk;omega)).mono (by have:=HRB.out;omega),HGF.out,j4,HCF.out⟩
   simp[results,Tryz.results54,go_sem,t0,t1,t2,t3]
  ·have hd:decide ((S.length:Int) > 0)=false:=zDf (by omega)
   obtain⟨⟨r0,r1,r2,r3⟩,-⟩:=hVR.four
   obtain⟨⟨z0,z1,z2,z3⟩,zf0,zf1,zf2,zf3⟩:=hVZ.four
   have hVZ4:=(((hVZ.set 0 (.slice qs S.length cs)).set 1 (.int .i64 rv)).set 2 (.int .i64 rw')).set 3 (.int .i64 rr)
   simp only[List.set_cons_zero,List.set_cons_succ] at hVZ4
   obtain⟨⟨t0,t1,t2,t3⟩,-⟩:=hVZ4.four
   have hset:w2.grownBy ((((w2.setCell ⟨Rb+1,0,none⟩ (.slice qs S.length cs)).setCell ⟨Rb+1,1,none⟩ (.int .i64 rv)).setCell ⟨Rb+1,2,none⟩ (.int .i64 rw')).setCell ⟨Rb+1,3,none⟩ (.int .i64 rr)) (some (Rb+1)):=((((grownBy_setCell _ _ _ _).trans (grownBy_setCell _ _ _ _)).trans (grownBy_setCell _ _ _ _)).trans (grownBy_setCell _ _ _ _))
   have HSO:=zN (show ShOwn _ (Rb+2) qs S from (by obtain⟨q1,c1,e1,e2,e3⟩:=hown.own;injection e1 with e1 _ e4;subst e1;exact e3))
   have HGF:Hid (w.grownBy ((((w2.setCell ⟨Rb+1,0,none⟩ (.slice qs S.length cs)).setCell ⟨Rb+1,1,none⟩ (.int .i64 rv)).setCell ⟨Rb+1,2,none⟩ (.int .i64 rw')).setCell ⟨Rb+1,3,none⟩ (.int .i64 rr)) (some g)):=zN (grw_set (grw_set (grw_set (grw_set hG (.inr (by have:=HRB.out;omega))) (.inr (by have:=HRB.out;omega))) (.inr (by have:=HRB.out;omega))) (.inr (by have:=HRB.out;omega)))
   have HCF:=zN ((((hC.set1 hgn1 hbn1 0 (.slice qs S.length cs)).set1 hgn1 hbn1 1 (.int .i64 rv)).set1 hgn1 hbn1 2 (.int .i64 rw')).set1 hgn1 hbn1 3 (.int .i64 rr))
   have HT:=zN (And.intro t0 (And.intro t1 (And.intro t2 t3)))
   clear hVZ4 hVR hVZ hG hC t0 t1 t2 t3
   go_wp2
   obtain⟨t0,t1,t2,t3⟩:=HT.out
   refine bodyPost_ret (v:=.agg #[.slice qs S.length cs,.int .i64 rv,.int .i64 rw',.int .i64 rr]) ?_ rfl ⟨⟨S,rv,rw',rr⟩,qs,cs,rfl,hcs,by show S.length≤2*S.length;omega,(HSO.out.grown hset (fun k hk=>by injection hk with hk;omega)).mono (by have:=HRB.out;omega),HGF.out,j2,HCF.out⟩
   simp[results,Tryz.results54,go_sem,t0,t1,t2,t3]
 ·by_cases h0:0 < S.length
  ·have hd:decide ((S.length:Int) > 0)=true:=zDt (by omega)
   obtain⟨q1,c1,bs,e1,hc1,hp1,hcell1,hfz1⟩:=hown.form
   injection e1 with e1 _ e4
   subst e1
   subst e4
   obtain⟨rfl,hbs1,hbs2⟩:=hp1 h0
   have hbsR:¬ (bs=Rb):=by omega
   have hbsR1:¬ (bs=Rb+1):=by omega
   have hgbs:g≠bs:=by omega
   have hbbs:0 < L.length→b≠bs:=fun h0=>by have:=hbR h0;omega
   clear hcell1 hfz1 hp1
   obtain⟨⟨r0,r1,r2,r3⟩,rf0,rf1,rf2,rf3⟩:=hVR.four
   have hCd:=hC.below (show Below w2.heap.size w2 w2.drew from (by repeat (first|(with_reducible first|assumption|exact zBr _ _|refine zBs ?_ (by first|omega|(simp<;>omega)) _|refine zBa ?_ (by first|omega|(simp<;>omega)) _|apply zBd)|assumption)))
   go_wp2
   refine RY.region RX.fN (fun w'=>w'.cell? ⟨Rb,0,none⟩=some (.slice (some ⟨bs,0,none⟩) S.length cs)) (by kernel_rfl) (by kernel_rfl) (r0) (fun OPS HO QR hQR=>?_)
   repeat (refine zeY (fun R hR=>?_);(first|refine zaY (by first|rfl|(rw[HO.out];rfl)) (by simp only[zA,zB,zC,zD];rfl) ?_|refine zbY (by first|rfl|(rw[HO.out];rfl)) rfl (by first|exact .inl rfl|exact .inr rfl) (by simp only[zE,zF,zG,zH];rfl) (by simp only[zA,zB,zC,zD];rfl) ?_|refine zcY (by first|rfl|(rw[HO.out];rfl)) rfl rfl (by simp only[zE,zF,zG,zH];rfl) (by simp only[zA,zB,zC,zD];rfl) ?_|(refine zdY (by first|rfl|(rw[HO.out];rfl)) rfl rfl rfl ?_;apply zEx;apply zEx;refine⟨fun w' hS K hK=>?_,?_,?_⟩;(focus (have hS1:=hS;go_wp2;exact hK _ _ (by simp only[zl,zG,zH];first|exact zf (by omega)|exact zg (by omega)|exact zh (by omega)|exact zi (by omega)|exact zj (by omega)|exact zk (by omega)|exact RX.bneB _|rfl) rfl));(focus (simp only[zA,zB,zC,zD];rfl))));refine hR _ _ ?_;clear hR R)
   refine zeY (fun R hR=>?_)
   refine zgY (by first|rfl|(rw[HO.out];rfl)) rfl (fun K hK=>?_)
   go_wp2_with fail
   refine (next_any _ g b L j2 S.length hCd (by have:=HL2.out;omega)).mono ?_
   rintro e w3 ⟨ix,rfl,hix,hg3,j3,hC3⟩
   replace hg3:w2.grownBy w3 (some g):=⟨hg3.os,hg3.tape,hg3.output,hg3.size,hg3.block⟩
   have hixn:ix < S.length:=by omega
   have r03:=hg3.cell r0 (by simp;omega)
   refine hK _ _ ⟨.inr (r03),hR _ _ ?_⟩;clear hK K hR R
   repeat (refine zeY (fun R hR=>?_);(first|refine zaY (by first|rfl|(rw[HO.out];rfl)) (by simp only[zA,zB,zC,zD];rfl) ?_|refine zbY (by first|rfl|(rw[HO.out];rfl)) rfl (by first|exact .inl rfl|exact .inr rfl) (by simp only[zE,zF,zG,zH];rfl) (by simp only[zA,zB,zC,zD];rfl) ?_|refine zcY (by first|rfl|(rw[HO.out];rfl)) rfl rfl (by simp only[zE,zF,zG,zH];rfl) (by simp only[zA,zB,zC,zD];rfl) ?_|(refine zdY (by first|rfl|(rw[HO.out];rfl)) rfl rfl rfl ?_;apply zEx;apply zEx;refine⟨fun w' hS K hK=>?_,?_,?_⟩;(focus (have hS1:=hS;go_wp2;exact hK _ _ (by simp only[zl,zG,zH];first|exact zf (by omega)|exact zg (by omega)|exact zh (by omega)|exact zi (by omega)|exact zj (by omega)|exact zk (by omega)|exact RX.bneB _|rfl) rfl));(focus (simp only[zA,zB,zC,zD];rfl))));refine hR _ _ ?_;clear hR R)
   refine zeY (fun R hR=>?_)
   refine zgY (by first|rfl|(rw[HO.out];rfl)) rfl (fun K hK=>?_)
   go_wp2_with fail
   refine (int_any w3 g b L j3 hC3).mono ?_
   rintro e w4 ⟨x,rfl,hx1,hx2,hg4,j4,hC4⟩
   have r04:=hg4.cell r03 (by simp;omega)
   have hg24:=hg3.trans hg4
   have hown4:ShV w4 (Rb+2) (.slice (some ⟨bs,0,none⟩) S.length cs) S:=World.ownsRow.kept hown hg24 (by simp[Value.ownBlock];omega)
   obtain⟨q1,c1,b1,e1,hc1,hp1,hcell1,hfz1⟩:=hown4.form
   injection e1 with e1 _ e4
   clear e4 hc1
   have hb1s:=(hp1 h0).1
   rw[←e1] at hb1s
   injection hb1s with hb1s
   injection hb1s with hb1s
   subst hb1s
   have k1:=(hcell1 ix hixn).2
   have k2:=hfz1 h0 (ix*2+1)
   have HSX:=zN ((show ShOwn w4 (Rb+2) (some ⟨bs,0,none⟩) S from ⟨bs,fun _=>⟨rfl,hbs1,(hp1 h0).2.2⟩,hcell1⟩).setW hixn x)
   have hVR4:=(hVR.grown hg24 (by simp;omega)).grown (grownBy_setCell w4 bs (ix*2+1) (.int .i64 x)) (by simp;omega)
   have hVZ4:=(hVZ.grown hg24 (by simp;omega)).grown (grownBy_setCell w4 bs (ix*2+1) (.int .i64 x)) (by simp;omega)
   have hG4:w.grownBy (w4.setCell ⟨bs,ix*2+1,none⟩ (.int .i64 x)) (some g):=grw_set (hG.trans hg24) (.inr (by have:=HRB.out;omega))
   have hC5:=hC4.set1 hgbs hbbs (ix*2+1) (.int .i64 x)
   have HST:=zN (And.intro hVR4 (And.intro hVZ4 (And.intro hG4 hC5)))
   have hix0:(0:Int)≤(ix:Int):=by omega
   have hixI:(ix:Int) < (S.length:Int):=by omega
   obtain⟨sv,hsv⟩:∃ sv,sv=S[ix].2:=⟨_,rfl⟩
   rw[←hsv] at k1
   clear hVR4 hVZ4 hG4 hC5 hown4 hcell1 hfz1 hp1 hVR hVZ hown hG hC hCd hC3 hC4 hg24 hg3 hg4 e1 hsv hix
   refine hK _ _ ⟨.inr (r04),hR _ _ ?_⟩;clear hK K hR R
   repeat (refine zeY (fun R hR=>?_);(first|refine zaY (by first|rfl|(rw[HO.out];rfl)) (by simp only[zA,zB,zC,zD];rfl) ?_|refine zbY (by first|rfl|(rw[HO.out];rfl)) rfl (by first|exact .inl rfl|exact .inr rfl) (by simp only[zE,zF,zG,zH];rfl) (by simp only[zA,zB,zC,zD];rfl) ?_|refine zcY (by first|rfl|(rw[HO.out];rfl)) rfl rfl (by simp only[zE,zF,zG,zH];rfl) (by simp only[zA,zB,zC,zD];rfl) ?_|(refine zdY (by first|rfl|(rw[HO.out];rfl)) rfl rfl rfl ?_;apply zEx;apply zEx;refine⟨fun w' hS K hK=>?_,?_,?_⟩;(focus (have hS1:=hS;simp[Oper.wp,execOp,go_sem,hix0,hixI];exact hK _ _ (by simp only[zl,zG,zH];first|exact zf (by omega)|exact zg (by omega)|exact zh (by omega)|exact zi (by omega)|exact zj (by omega)|exact zk (by omega)|exact RX.bneB _|rfl) rfl));(focus (simp only[zA,zB,zC,zD];rfl))));refine hR _ _ ?_;clear hR R)
   refine zeY (fun R hR=>?_)
   refine zgY (by first|rfl|(rw[HO.out];rfl)) rfl (fun K hK=>?_)
   go_wp2
   first|refine⟨(by first|exact .inl rfl|exact .inl trivial|trivial),hR _ _ (RY.wpL_nil (hQR _ _ ?_))⟩|refine hR _ _ (RY.wpL_nil (hQR _ _ ?_))|refine hQR _ _ ?_
   (try clear hR);(try clear R);clear hQR QR HO OPS
   clear r0 r1 r2 r3 rf0 rf1 rf2 rf3 r03 r04 k1 k2
   obtain⟨hVR,hVZ,hG,hC⟩:=HST.out
   obtain⟨⟨r0,r1,r2,r3⟩,-⟩:=hVR.four
   obtain⟨⟨z0,z1,z2,z3⟩,zf0,zf1,zf2,zf3⟩:=hVZ.four
   have hVZ4:=(((hVZ.set 0 (.slice (some ⟨bs,0,none⟩) S.length cs)).set 1 (.int .i64 rv)).set 2 (.int .i64 rw')).set 3 (.int .i64 rr)
   simp only[List.set_cons_zero,List.set_cons_succ] at hVZ4
   obtain⟨⟨t0,t1,t2,t3⟩,-⟩:=hVZ4.four
   have hset:(w4.setCell ⟨bs,ix*2+1,none⟩ (.int .i64 x)).grownBy (((((w4.setCell ⟨bs,ix*2+1,none⟩ (.int .i64 x)).setCell ⟨Rb+1,0,none⟩ (.slice (some ⟨bs,0,none⟩) S.length cs)).setCell ⟨Rb+1,1,none⟩ (.int .i64 rv)).setCell ⟨Rb+1,2,none⟩ (.int .i64 rw')).setCell ⟨Rb+1,3,none⟩ (.int .i64 rr)) (some (Rb+1)):=((((grownBy_setCell _ _ _ _).trans (grownBy_setCell _ _ _ _)).trans (grownBy_setCell _ _ _ _)).trans (grownBy_setCell _ _ _ _))
   have HSO:=zN (HSX.out)
   have HGF:Hid (w.grownBy (((((w4.setCell ⟨bs,ix*2+1,none⟩ (.int .i64 x)).setCell ⟨Rb+1,0,none⟩ (.slice (some ⟨bs,0,none⟩) S.length cs)).setCell ⟨Rb+1,1,none⟩ (.int .i64 rv)).setCell ⟨Rb+1,2,none⟩ (.int .i64 rw')).setCell ⟨Rb+1,3,none⟩ (.int .i64 rr)) (some g)):=zN (grw_set (grw_set (grw_set (grw_set hG (.inr (by have:=HRB.out;omega))) (.inr (by have:=HRB.out;omega))) (.inr (by have:=HRB.out;omega))) (.inr (by have:=HRB.out;omega)))
   have HCF:=zN ((((hC.set1 hgn1 hbn1 0 (.slice (some ⟨bs,0,none⟩) S.length cs)).set1 hgn1 hbn1 1 (.int .i64 rv)).set1 hgn1 hbn1 2 (.int .i64 rw')).set1 hgn1 hbn1 3 (.int .i64 rr))
   have HT:=zN (And.intro t0 (And.intro t1 (And.intro t2 t3)))
   clear hVZ4 hVR hVZ hG hC t0 t1 t2 t3
   go_wp2
   obtain⟨t0,t1,t2,t3⟩:=HT.out
   refine bodyPost_ret (v:=.agg #[.slice (some ⟨bs,0,none⟩) S.length cs,.int .i64 rv,.int .i64 rw',.int .i64 rr]) ?_ rfl ⟨⟨(S.set ix (S[ix].1,x)),rv,rw',rr⟩,(some ⟨bs,0,none⟩),cs,by unfold rwv;simp only[List.length_set],by show (S.set ix (S[ix].1,x)).length≤cs;rw[List.length_set];exact hcs,by show (S.set ix (S[ix].1,x)).length≤2*S.length;rw[List.length_set];omega,(HSO.out.grown hset (fun k hk=>by injection hk with hk;omega)).mono (by have:=HRB.out;omega),HGF.out,j4,HCF.out⟩
   simp[results,Tryz.results54,go_sem,t0,t1,t2,t3]
  ·have hd:decide ((S.length:Int) > 0)=false:=zDf (by omega)
   obtain⟨⟨r0,r1,r2,r3⟩,-⟩:=hVR.four
   obtain⟨⟨z0,z1,z2,z3⟩,zf0,zf1,zf2,zf3⟩:=hVZ.four
   have hVZ4:=(((hVZ.set 0 (.slice qs S.length cs)).set 1 (.int .i64 rv)).set 2 (.int .i64 rw')).set 3 (.int .i64 rr)
   simp only[List.set_cons_zero,List.set_cons_succ] at hVZ4
   obtain⟨⟨t0,t1,t2,t3⟩,-⟩:=hVZ4.four
   have hset:w2.grownBy ((((w2.setCell ⟨Rb+1,0,none⟩ (.slice qs S.length cs)).setCell ⟨Rb+1,1,none⟩ (.int .i64 rv)).setCell ⟨Rb+1,2,none⟩ (.int .i64 rw')).setCell ⟨Rb+1,3,none⟩ (.int .i64 rr)) (some (Rb+1)):=((((grownBy_setCell _ _ _ _).trans (grownBy_setCell _ _ _ _)).trans (grownBy_setCell _ _ _ _)).trans (grownBy_setCell _ _ _ _))
   have HSO:=zN (show ShOwn _ (Rb+2) qs S from (by obtain⟨q1,c1,e1,e2,e3⟩:=hown.own;injection e1 with e1 _ e4;subst e1;exact e3))
   have HGF:Hid (w.grownBy ((((w2.setCell ⟨Rb+1,0,none⟩ (.slice qs S.length cs)).setCell ⟨Rb+1,1,none⟩ (.int .i64 rv)).setCell ⟨Rb+1,2,none⟩ (.int .i64 rw')).setCell ⟨Rb+1,3,none⟩ (.int .i64 rr)) (some g)):=zN (grw_set (grw_set (grw_set (grw_set hG (.inr (by have:=HRB.out;omega))) (.inr (by have:=HRB.out;omega))) (.inr (by have:=HRB.out;omega))) (.inr (by have:=HRB.out;omega)))
   have HCF:=zN ((((hC.set1 hgn1 hbn1 0 (.slice qs S.length cs)).set1 hgn1 hbn1 1 (.int .i64 rv)).set1 hgn1 hbn1 2 (.int .i64 rw')).set1 hgn1 hbn1 3 (.int .i64 rr))
   have HT:=zN (And.intro t0 (And.intro t1 (And.intro t2 t3)))
   clear hVZ4 hVR hVZ hG hC t0 t1 t2 t3
   go_wp2
   obtain⟨t0,t1,t2,t3⟩:=HT.out
   refine bodyPost_ret (v:=.agg #[.slice qs S.length cs,.int .i64 rv,.int .i64 rw',.int .i64 rr]) ?_ rfl ⟨⟨S,rv,rw',rr⟩,qs,cs,rfl,hcs,by show S.length≤2*S.length;omega,(HSO.out.grown hset (fun k hk=>by injection hk with hk;omega)).mono (by have:=HRB.out;omega),HGF.out,j2,HCF.out⟩
   simp[results,Tryz.results54,go_sem,t0,t1,t2,t3]
 ·obtain⟨⟨r0,r1,r2,r3⟩,rf0,rf1,rf2,rf3⟩:=hVR.four
  have HSZ:Hid (Rb+1 < w2.heap.size):=zN (zM _ _ hVZ.four.1.1)
  go_wp2_with (at_builtin;refine Hid.out ?_)
  refine zN ?_
  by_cases h0:S.length=0
  ·have hz:=HNIL.out h0
   have hS0:S=[]:=List.eq_nil_of_length_eq_zero h0
   rw[hz]
   refine RX.wpl_clone (by rfl) elSh _ _ (by rfl) (Rb+2) (by rfl) none 0 0 [] (by rfl) (by rfl) (fun hh=>by omega) (fun u hu=>by cases hu) (by omega) (by omega) (by have:=HSZ.out;omega) ?_
   intro v5 w5 hown5 hv5 hb5 hg5
   clear hv5
   have hown6:ShV w5 (Rb+2) v5 (S ++ S):=by rw[hS0];exact hown5
   have hrow:∀ k,(none:Option Nat)=some k→Rb+2≤k:=fun k hk=>by cases hk
   clear hown5 hb5 hz hS0 hown h0
   obtain⟨S5,hS5⟩:∃ S5,S5=S ++ S:=⟨_,rfl⟩
   have HS5:Hid (S5.length≤2*S.length):=zN (by rw[hS5,List.length_append];omega)
   rw[←hS5] at hown6
   clear hS5
   obtain⟨q5,c5,rfl,hc5,hso5⟩:=hown6.own
   have hVR5:=hVR.grown hg5 (fun e=>by have:=hrow _ e.symm;omega)
   have hVZ5:=hVZ.grown hg5 (fun e=>by have:=hrow _ e.symm;omega)
   have hG5:w.grownBy w5 (some g):=grw_own hG hg5 (fun k hk=>by have:=hrow k hk;have:=HRB.out;omega)
   have hC5:=hC.own hg5 (fun k hk=>⟨by have:=hrow k hk;omega,fun h0=>by have:=hrow k hk;have:=hbR h0;omega⟩)
   have hVRn:=hVR5.set 0 (.slice q5 S5.length c5)
   simp only[List.set_cons_zero] at hVRn
   have hVZn:=hVZ5.grown (grownBy_setCell w5 Rb 0 (.slice q5 S5.length c5)) (by simp)
   have hGn:w.grownBy (w5.setCell ⟨Rb,0,none⟩ (.slice q5 S5.length c5)) (some g):=grw_set hG5 (.inr (by have:=HRB.out;omega))
   have hCn:=hC5.set1 hgn hbn 0 (.slice q5 S5.length c5)
   have HSX:=zN (hso5.grown (grownBy_setCell w5 Rb 0 (.slice q5 S5.length c5)) (fun k hk=>by injection hk with hk;omega))
   obtain⟨⟨y0,y1,y2,y3⟩,yf0,yf1,yf2,yf3⟩:=hVR5.four
   have HST:=zN (And.intro hVRn (And.intro hVZn (And.intro hGn hCn)))
   have HC5:=zN hc5
   clear hVRn hVZn hGn hCn hVR hVZ hG hC hg5 hown6 hso5 hVR5 hVZ5 hG5 hC5 hrow hc5
   obtain⟨hVR,hVZ,hG,hC⟩:=HST.out
   obtain⟨⟨x0,x1,x2,x3⟩,-⟩:=hVR.four
   obtain⟨⟨z0,z1,z2,z3⟩,zf0,zf1,zf2,zf3⟩:=hVZ.four
   have hVZ4:=(((hVZ.set 0 (.slice q5 S5.length c5)).set 1 (.int .i64 rv)).set 2 (.int .i64 rw')).set 3 (.int .i64 rr)
   simp only[List.set_cons_zero,List.set_cons_succ] at hVZ4
   obtain⟨⟨t0,t1,t2,t3⟩,-⟩:=hVZ4.four
   have hset:(w5.setCell ⟨Rb,0,none⟩ (.slice q5 S5.length c5)).grownBy (((((w5.setCell ⟨Rb,0,none⟩ (.slice q5 S5.length c5)).setCell ⟨Rb+1,0,none⟩ (.slice q5 S5.length c5)).setCell ⟨Rb+1,1,none⟩ (.int .i64 rv)).setCell ⟨Rb+1,2,none⟩ (.int .i64 rw')).setCell ⟨Rb+1,3,none⟩ (.int .i64 rr)) (some (Rb+1)):=((((grownBy_setCell _ _ _ _).trans (grownBy_setCell _ _ _ _)).trans (grownBy_setCell _ _ _ _)).trans (grownBy_setCell _ _ _ _))
   have HSO:=zN (HSX.out)
   have HGF:Hid (w.grownBy (((((w5.setCell ⟨Rb,0,none⟩ (.slice q5 S5.length c5)).setCell ⟨Rb+1,0,none⟩ (.slice q5 S5.length c5)).setCell ⟨Rb+1,1,none⟩ (.int .i64 rv)).setCell ⟨Rb+1,2,none⟩ (.int .i64 rw')).setCell ⟨Rb+1,3,none⟩ (.int .i64 rr)) (some g)):=zN (grw_set (grw_set (grw_set (grw_set hG (.inr (by have:=HRB.out;omega))) (.inr (by have:=HRB.out;omega))) (.inr (by have:=HRB.out;omega))) (.inr (by have:=HRB.out;omega)))
   have HCF:=zN ((((hC.set1 hgn1 hbn1 0 (.slice q5 S5.length c5)).set1 hgn1 hbn1 1 (.int .i64 rv)).set1 hgn1 hbn1 2 (.int .i64 rw')).set1 hgn1 hbn1 3 (.int .i64 rr))
   have HT:=zN (And.intro t0 (And.intro t1 (And.intro t2 t3)))
   clear hVZ4 hVR hVZ hG hC t0 t1 t2 t3
   go_wp2
   obtain⟨t0,t1,t2,t3⟩:=HT.out
   refine bodyPost_ret (v:=.agg #[.slice q5 S5.length c5,.int .i64 rv,.int .i64 rw',.int .i64 rr]) ?_ rfl ⟨⟨S5,rv,rw',rr⟩,q5,c5,rfl,HC5.out,HS5.out,(HSO.out.grown hset (fun k hk=>by injection hk with hk;omega)).mono (by have:=HRB.out;omega),HGF.out,j2,HCF.out⟩
   simp[results,Tryz.results54,go_sem,t0,t1,t2,t3]
  ·obtain⟨q1,c1,e1,hc1,hso⟩:=hown.own
   injection e1 with e1 _ e4
   subst e1
   clear e4 hc1
   obtain⟨ad,rfl,hnews⟩:=hso.news (by omega)
   refine RX.wpl_appS (by rfl) elSh _ _ (by rfl) (Rb+2) (.slice (some ad) S.length cs) S.length (S.flatMap encI) hown (by rfl) ad S.length cs (S.flatMap encI) (by rfl) (encI_len S) hnews (encI_one S) (by have:=HL2.out;omega) (by have:=HL2.out;omega) (by have:=HSZ.out;omega) ?_
   intro v5 w5 hown5 hb5 hg5 hat5
   have hown6:ShV w5 (Rb+2) v5 (S ++ S):=by
    unfold ShV;rw[List.length_append,List.flatMap_append];exact hown5
   have hrow:∀ k,(Value.slice (some ad) S.length cs).ownBlock=some k→Rb+2≤k:=fun k hk=>(World.ownsRow.lt hown k hk).1
   clear hown5 hb5 hat5 hso hnews hown
   obtain⟨S5,hS5⟩:∃ S5,S5=S ++ S:=⟨_,rfl⟩
   have HS5:Hid (S5.length≤2*S.length):=zN (by rw[hS5,List.length_append];omega)
   rw[←hS5] at hown6
   clear hS5
   obtain⟨q5,c5,rfl,hc5,hso5⟩:=hown6.own
   have hVR5:=hVR.grown hg5 (fun e=>by have:=hrow _ e.symm;omega)
   have hVZ5:=hVZ.grown hg5 (fun e=>by have:=hrow _ e.symm;omega)
   have hG5:w.grownBy w5 (some g):=grw_own hG hg5 (fun k hk=>by have:=hrow k hk;have:=HRB.out;omega)
   have hC5:=hC.own hg5 (fun k hk=>⟨by have:=hrow k hk;omega,fun h0=>by have:=hrow k hk;have:=hbR h0;omega⟩)
   have hVRn:=hVR5.set 0 (.slice q5 S5.length c5)
   simp only[List.set_cons_zero] at hVRn
   have hVZn:=hVZ5.grown (grownBy_setCell w5 Rb 0 (.slice q5 S5.length c5)) (by simp)
   have hGn:w.grownBy (w5.setCell ⟨Rb,0,none⟩ (.slice q5 S5.length c5)) (some g):=grw_set hG5 (.inr (by have:=HRB.out;omega))
   have hCn:=hC5.set1 hgn hbn 0 (.slice q5 S5.length c5)
   have HSX:=zN (hso5.grown (grownBy_setCell w5 Rb 0 (.slice q5 S5.length c5)) (fun k hk=>by injection hk with hk;omega))
   obtain⟨⟨y0,y1,y2,y3⟩,yf0,yf1,yf2,yf3⟩:=hVR5.four
   have HST:=zN (And.intro hVRn (And.intro hVZn (And.intro hGn hCn)))
   have HC5:=zN hc5
   clear hVRn hVZn hGn hCn hVR hVZ hG hC hg5 hown6 hso5 hVR5 hVZ5 hG5 hC5 hrow hc5
   obtain⟨hVR,hVZ,hG,hC⟩:=HST.out
   obtain⟨⟨x0,x1,x2,x3⟩,-⟩:=hVR.four
   obtain⟨⟨z0,z1,z2,z3⟩,zf0,zf1,zf2,zf3⟩:=hVZ.four
   have hVZ4:=(((hVZ.set 0 (.slice q5 S5.length c5)).set 1 (.int .i64 rv)).set 2 (.int .i64 rw')).set 3 (.int .i64 rr)
   simp only[List.set_cons_zero,List.set_cons_succ] at hVZ4
   obtain⟨⟨t0,t1,t2,t3⟩,-⟩:=hVZ4.four
   have hset:(w5.setCell ⟨Rb,0,none⟩ (.slice q5 S5.length c5)).grownBy (((((w5.setCell ⟨Rb,0,none⟩ (.slice q5 S5.length c5)).setCell ⟨Rb+1,0,none⟩ (.slice q5 S5.length c5)).setCell ⟨Rb+1,1,none⟩ (.int .i64 rv)).setCell ⟨Rb+1,2,none⟩ (.int .i64 rw')).setCell ⟨Rb+1,3,none⟩ (.int .i64 rr)) (some (Rb+1)):=((((grownBy_setCell _ _ _ _).trans (grownBy_setCell _ _ _ _)).trans (grownBy_setCell _ _ _ _)).trans (grownBy_setCell _ _ _ _))
   have HSO:=zN (HSX.out)
   have HGF:Hid (w.grownBy (((((w5.setCell ⟨Rb,0,none⟩ (.slice q5 S5.length c5)).setCell ⟨Rb+1,0,none⟩ (.slice q5 S5.length c5)).setCell ⟨Rb+1,1,none⟩ (.int .i64 rv)).setCell ⟨Rb+1,2,none⟩ (.int .i64 rw')).setCell ⟨Rb+1,3,none⟩ (.int .i64 rr)) (some g)):=zN (grw_set (grw_set (grw_set (grw_set hG (.inr (by have:=HRB.out;omega))) (.inr (by have:=HRB.out;omega))) (.inr (by have:=HRB.out;omega))) (.inr (by have:=HRB.out;omega)))
   have HCF:=zN ((((hC.set1 hgn1 hbn1 0 (.slice q5 S5.length c5)).set1 hgn1 hbn1 1 (.int .i64 rv)).set1 hgn1 hbn1 2 (.int .i64 rw')).set1 hgn1 hbn1 3 (.int .i64 rr))
   have HT:=zN (And.intro t0 (And.intro t1 (And.intro t2 t3)))
   clear hVZ4 hVR hVZ hG hC t0 t1 t2 t3
   go_wp2
   obtain⟨t0,t1,t2,t3⟩:=HT.out
   refine bodyPost_ret (v:=.agg #[.slice q5 S5.length c5,.int .i64 rv,.int .i64 rw',.int .i64 rr]) ?_ rfl ⟨⟨S5,rv,rw',rr⟩,q5,c5,rfl,HC5.out,HS5.out,(HSO.out.grown hset (fun k hk=>by injection hk with hk;omega)).mono (by have:=HRB.out;omega),HGF.out,j2,HCF.out⟩
   simp[results,Tryz.results54,go_sem,t0,t1,t2,t3]
def qF (g Rb bt n cp base:Nat):Nat→Value→World→Prop
 |0,x,_=>x=.pointer (some ⟨Rb,4,none⟩)
 |1,x,_=>x=.slice (some ⟨bt,0,none⟩) n cp
 |2,x,_=>x=.pointer (some ⟨g,0,none⟩)
 |3,x,_=>x=.pointer (some ⟨Rb,4,none⟩)
 |4,x,_=>x=.slice (some ⟨bt,0,none⟩) n cp
 |5,x,_=>x=.int .i64 n
 |6,x,_=>∃ r:Nat,x=.int .i64 r∧r < n
 |7,x,_=>x=.pointer (some ⟨g,0,none⟩)
 |8,x,_=>∃ i:Int,x=.int .i64 i
 |9,x,w=>∃ A,base≤A∧x=.slice (some ⟨A,0,none⟩) 4 4∧∀ k,k < 4→∃ v:Int,w.cell? ⟨A,k,none⟩=some (.int .i64 v)
 |10,x,_=>x=.pointer (some ⟨g,0,none⟩)
 |11,x,_=>∃ r:Nat,x=.int .i64 r∧r < 4
 |12,x,w=>∃ A k,base≤A∧x=.pointer (some ⟨A,k,none⟩)∧∃ v:Int,w.cell? ⟨A,k,none⟩=some (.int .i64 v)
 |13,x,_=>∃ v:Int,x=.int .i64 v
 |14,x,_=>∃ k:Nat,x=.pointer (some ⟨bt,k,none⟩)∧k < n
 |_,_,_=>True
theorem qF.keep {g Rb bt n cp base j:Nat} {x:Value} {w w':World} (h:qF g Rb bt n cp base j x w) (hk:KeepN base w w'):qF g Rb bt n cp base j x w':=by
 unfold qF at *
 split at h
 all_goals first
  |exact h
  |(obtain⟨A,h1,h2,h3⟩:=h;exact⟨A,h1,h2,fun k hh=>by obtain⟨v,hv⟩:=h3 k hh;exact⟨v,hk _ _ _ h1 hv⟩⟩)
  |(obtain⟨A,k,h1,h2,v,h3⟩:=h;exact⟨A,k,h1,h2,v,hk _ _ _ h1 h3⟩)
def QW (W:World) (g b:Nat) (L:List Int) (w:World):Prop:=W.grownBy w (some g)∧∃ j,CodesAt w g b L j
def QDone (W:World) (g b:Nat) (L:List Int) (bt n:Nat) (w:World):Prop:=∃ w4 k v,k < n∧QW W g b L w4∧w=w4.setCell ⟨bt,k,none⟩ (.int .i64 v)
def QI (W:World) (g b:Nat) (L:List Int) (Rb bt n cp:Nat) (ds:List Deferred) (d:Nat→Bool) (a:Act) (w:World):Prop:=
 ∃ xs:List Value,xs.length=109∧a=⟨xs.toArray,ds⟩∧xs.getD 0 undef=.pointer (some ⟨g,0,none⟩)∧xs.getD 3 undef=.pointer (some ⟨Rb,0,none⟩)∧xs.getD 4 undef=.pointer (some ⟨Rb+1,0,none⟩)∧
  ((d 15=false∧QW W g b L w∧∀ j,j < 15→d j=true→qF g Rb bt n cp W.heap.size j (xs.getD (j+71) undef) w)∨((∀ j,j < 15→d j=true)∧d 15=true∧QDone W g b L bt n w))
theorem QI.live {W:World} {g b:Nat} {L:List Int} {Rb bt n cp:Nat} {ds:List Deferred} {d:Nat→Bool} {a:Act} {w:World} (h:QI W g b L Rb bt n cp ds d a w) {i:Nat} (hi:i≤15) (hd:d i=false) :
  QW W g b L w∧a.tmps[0]?.getD undef=.pointer (some ⟨g,0,none⟩)∧a.tmps[3]?.getD undef=.pointer (some ⟨Rb,0,none⟩)∧∀ j t,t=j+71→j < 15→d j=true→qF g Rb bt n cp W.heap.size j (a.tmps[t]?.getD undef) w:=by
 obtain⟨xs,hl,rfl,h0,h3,h4,⟨_,hw,hq⟩|⟨ha,hb,_⟩⟩:=h
 ·refine⟨hw,by rw[tmps_list];exact h0,by rw[tmps_list];exact h3,fun j t ht hj hdj=>?_⟩
  subst ht
  rw[tmps_list]
  exact hq j hj hdj
 ·exfalso
  rcases Nat.lt_or_eq_of_le hi with h|h
  ·rw[ha i h] at hd;cases hd
  ·subst h;rw[hb] at hd;cases hd
theorem QI.put {W:World} {g b:Nat} {L:List Int} {Rb bt n cp:Nat} {ds:List Deferred} {d:Nat→Bool} {a:Act} {w w':World} {j:Nat} {v:Value} (h:QI W g b L Rb bt n cp ds d a w) (hj:j < 15) (hd0:d j=false)
  (hv:qF g Rb bt n cp W.heap.size j v w') (hk:KeepN W.heap.size w w') (hw:QW W g b L w'):QI W g b L Rb bt n cp ds (fun i=>i == j || d i) (a.put (some (j+71)) v) w':=by
 obtain⟨xs,hl,rfl,h0,h3,h4,⟨h15,_,hq⟩|⟨ha,_,_⟩⟩:=h
 ·refine⟨xs.set (j+71) v,by simpa using hl,by simp[Act.put],?_,?_,?_,.inl ⟨?_,hw,fun i hi hd=>?_⟩⟩
  ·rw[List.getD_eq_getElem?_getD,List.getElem?_set_ne (by omega),←List.getD_eq_getElem?_getD];exact h0
  ·rw[List.getD_eq_getElem?_getD,List.getElem?_set_ne (by omega),←List.getD_eq_getElem?_getD];exact h3
  ·rw[List.getD_eq_getElem?_getD,List.getElem?_set_ne (by omega),←List.getD_eq_getElem?_getD];exact h4
  ·have hne:(15 == j)=false:=by rw[beq_eq_false_iff_ne];omega
   show (15 == j || d 15)=false
   rw[hne,h15];rfl
  ·by_cases hij:i=j
   ·subst hij
    rw[List.getD_eq_getElem?_getD,List.getElem?_set_self (by omega)];exact hv
   ·rw[List.getD_eq_getElem?_getD,List.getElem?_set_ne (by omega),←List.getD_eq_getElem?_getD]
    exact (hq i hi (by simpa[hij] using hd)).keep hk
 ·rw[ha j hj] at hd0;cases hd0
theorem QI.store {W:World} {g b:Nat} {L:List Int} {Rb bt n cp:Nat} {ds:List Deferred} {d:Nat→Bool} {a:Act} {w:World} (h:QI W g b L Rb bt n cp ds d a w) (hall:∀ j,j < 15→d j=true) (hw:QW W g b L w) {k:Nat} (hk:k < n) (v:Int) :
  QI W g b L Rb bt n cp ds (fun i=>i == 15 || d i) a (w.setCell ⟨bt,k,none⟩ (.int .i64 v)):=by
 obtain⟨xs,hl,rfl,h0,h3,h4,_⟩:=h
 exact⟨xs,hl,rfl,h0,h3,h4,.inr ⟨fun j hj=>by show (j == 15 || d j)=true;rw[hall j hj];simp,by simp,w,k,v,hk,hw,rfl⟩⟩
theorem QW.alloc {W:World} {g b:Nat} {L:List Int} {w:World} (h:QW W g b L w) (o:Obj):QW W g b L (w.alloc o):=by
 obtain⟨hg,j,hc⟩:=h
 exact⟨grw_alloc hg _,j,hc.below ((zBr _ _).alloc (Nat.le_refl _) _)⟩
theorem QW.turn {W:World} {g b:Nat} {L:List Int} {w w':World} (h:QW W g b L w) (hg:w.grownBy w' (some g)) (hc:∃ j,CodesAt w' g b L j):QW W g b L w':=⟨h.1.trans hg,hc⟩
theorem QW.start {W:World} {g b:Nat} {L:List Int} {j:Nat} (h:CodesAt W g b L j):QW W g b L W.drew:=⟨grw_drew (grw_refl _ _),j,h.kept rfl (fun _=>rfl)⟩
theorem IntsAt.put {w:World} {b:Nat} {T:List Int} (h:IntsAt w b 0 T) {k:Nat} (hk:k < T.length) (v:Int):IntsAt (w.setCell ⟨b,k,none⟩ (.int .i64 v)) b 0 (T.set k v):=fun m hm=>by
 rw[List.length_set] at hm
 refine⟨?_,by rw[World.frozen?_setCell];exact (h m hm).2⟩
 by_cases e:k=m
 ·subst e
  rw[List.getElem_set_self,Nat.zero_add]
  have:=(h k hk).1
  rw[Nat.zero_add] at this
  exact zL _ _ _ (by rw[this];rfl)
 ·rw[List.getElem_set_ne e,zK _ _ _ _ (by simp<;>omega)]
  exact (h m hm).1
structure StL (W:World) (g b:Nat) (L:List Int) (Rb:Nat) (pf ps pa:Int) (w:World) (u t cu ct:Value) (X:List RwX) (T:List Int):Prop where
 ro:RoV w (Rb+2) u X
 ta:RowV w (Rb+2) t T
 vr:VsAt w Rb [.int .i64 pf,.int .i64 ps,.int .i64 pa,cu,ct]
 vz:VsAt w (Rb+1) [.int .i64 0,.int .i64 0,.int .i64 0,.slice none 0 0,.slice none 0 0]
 qw:QW W g b L w
theorem StL.alloc {W:World} {g b:Nat} {L:List Int} {Rb:Nat} {pf ps pa:Int} {w:World} {u t cu ct:Value} {X:List RwX} {T:List Int} (h:StL W g b L Rb pf ps pa w u t cu ct X T) (o:Obj):StL W g b L Rb pf ps pa (w.alloc o) u t cu ct X T:=
 ⟨World.ownsRow.alloc h.ro o,World.ownsRow.alloc h.ta o,h.vr.grown (World.grownBy_alloc w o none) (by simp),h.vz.grown (World.grownBy_alloc w o none) (by simp),h.qw.alloc o⟩
theorem StL.drew {W:World} {g b:Nat} {L:List Int} {Rb:Nat} {pf ps pa:Int} {w:World} {u t cu ct:Value} {X:List RwX} {T:List Int} (h:StL W g b L Rb pf ps pa w u t cu ct X T):StL W g b L Rb pf ps pa w.drew u t cu ct X T:=
 ⟨World.ownsRow.drew h.ro,World.ownsRow.drew h.ta,h.vr.grown (grw_drew (grw_refl w none)) (by simp),h.vz.grown (grw_drew (grw_refl w none)) (by simp),by
  obtain⟨hg,j,hc⟩:=h.qw
  exact⟨grw_drew hg,j,hc.kept rfl (fun _=>rfl)⟩⟩
theorem StL.row {W:World} {g b:Nat} {L:List Int} {Rb:Nat} {pf ps pa:Int} {w w':World} {u u' t cu ct:Value} {X X':List RwX} {T:List Int} (h:StL W g b L Rb pf ps pa w u t cu ct X T) (hW:W.heap.size≤Rb) (hg:g < Rb) (hb:0 < L.length→b < Rb)
  (hu:RoV w' (Rb+2) u' X') (hgr:w.grownBy w' u.ownBlock):StL W g b L Rb pf ps pa w' u' t cu ct X' T:=by
 have hk:∀ k,u.ownBlock=some k→Rb+2≤k:=fun k e=>(World.ownsRow.lt h.ro k e).1
 obtain⟨h1,j,hc⟩:=h.qw
 exact⟨hu,World.ownsRow.kept h.ta hgr (own_apart h.ta h.ro (by decide)),h.vr.grown hgr (fun e=>by have:=hk _ e.symm;omega),h.vz.grown hgr (fun e=>by have:=hk _ e.symm;omega),
  grw_own h1 hgr (fun k e=>by have:=hk k e;omega),j,hc.own hgr (fun k e=>⟨by have:=hk k e;omega,fun h0=>by have:=hk k e;have:=hb h0;omega⟩)⟩
theorem StL.tar {W:World} {g b:Nat} {L:List Int} {Rb:Nat} {pf ps pa:Int} {w w':World} {u t t' cu ct:Value} {X:List RwX} {T T':List Int} (h:StL W g b L Rb pf ps pa w u t cu ct X T) (hW:W.heap.size≤Rb) (hg:g < Rb) (hb:0 < L.length→b < Rb)
  (ht:RowV w' (Rb+2) t' T') (hgr:w.grownBy w' t.ownBlock):StL W g b L Rb pf ps pa w' u t' cu ct X T':=by
 have hk:∀ k,t.ownBlock=some k→Rb+2≤k:=fun k e=>(World.ownsRow.lt h.ta k e).1
 obtain⟨h1,j,hc⟩:=h.qw
 exact⟨World.ownsRow.kept h.ro hgr (own_apart h.ro h.ta (by decide)),ht,h.vr.grown hgr (fun e=>by have:=hk _ e.symm;omega),h.vz.grown hgr (fun e=>by have:=hk _ e.symm;omega),
  grw_own h1 hgr (fun k e=>by have:=hk k e;omega),j,hc.own hgr (fun k e=>⟨by have:=hk k e;omega,fun h0=>by have:=hk k e;have:=hb h0;omega⟩)⟩
theorem StL.set3 {W:World} {g b:Nat} {L:List Int} {Rb:Nat} {pf ps pa:Int} {w:World} {u t cu ct:Value} {X:List RwX} {T:List Int} (h:StL W g b L Rb pf ps pa w u t cu ct X T) (hW:W.heap.size≤Rb) (hg:g < Rb) (hb:0 < L.length→b < Rb) (v:Value) :
  StL W g b L Rb pf ps pa (w.setCell ⟨Rb,3,none⟩ v) u t v ct X T:=by
 obtain⟨h1,j,hc⟩:=h.qw
 have hv:=h.vr.set 3 v
 simp only[List.set_cons_zero,List.set_cons_succ] at hv
 exact⟨h.ro.kept (grownBy_setCell w Rb 3 v) (fun k hk=>by injection hk with hk;omega),h.ta.kept (grownBy_setCell w Rb 3 v) (fun k hk=>by injection hk with hk;omega),hv,h.vz.grown (grownBy_setCell w Rb 3 v) (by simp),
  grw_set h1 (.inr hW),j,hc.set1 (by omega) (fun h0=>by have:=hb h0;omega) 3 v⟩
theorem StL.set4 {W:World} {g b:Nat} {L:List Int} {Rb:Nat} {pf ps pa:Int} {w:World} {u t cu ct:Value} {X:List RwX} {T:List Int} (h:StL W g b L Rb pf ps pa w u t cu ct X T) (hW:W.heap.size≤Rb) (hg:g < Rb) (hb:0 < L.length→b < Rb) (v:Value) :
  StL W g b L Rb pf ps pa (w.setCell ⟨Rb,4,none⟩ v) u t cu v X T:=by
 obtain⟨h1,j,hc⟩:=h.qw
 have hv:=h.vr.set 4 v
 simp only[List.set_cons_zero,List.set_cons_succ] at hv
 exact⟨h.ro.kept (grownBy_setCell w Rb 4 v) (fun k hk=>by injection hk with hk;omega),h.ta.kept (grownBy_setCell w Rb 4 v) (fun k hk=>by injection hk with hk;omega),hv,h.vz.grown (grownBy_setCell w Rb 4 v) (by simp),
  grw_set h1 (.inr hW),j,hc.set1 (by omega) (fun h0=>by have:=hb h0;omega) 4 v⟩
def sF (Rb:Nat) (u0 t0:Value) (bq:Nat) (x0:RwX) (b7 b11:Bool):Nat→Value→World→Prop
 |0,x,_=>x=.pointer (some ⟨Rb,3,none⟩)
 |1,x,_=>x=u0
 |2,x,_=>x=.pointer (some ⟨Rb,3,none⟩)
 |3,x,_=>x=u0
 |4,x,_=>x=.pointer (some ⟨bq,0,none⟩)
 |5,x,_=>x=.agg #[.slice x0.2.1 x0.1.sh.length x0.2.2,.int .i64 x0.1.value,.int .i64 x0.1.weight,.int .i64 x0.1.report]
 |6,x,w=>b7=false→∃ A,x=.slice (some ⟨A,0,none⟩) 1 1∧w.heap[A]?=some (.cells #[.slice x0.2.1 x0.1.sh.length x0.2.2,.int .i64 x0.1.value,.int .i64 x0.1.weight,.int .i64 x0.1.report] 45 (0,0))
 |8,x,_=>x=.pointer (some ⟨Rb,4,none⟩)
 |9,x,_=>x=t0
 |10,x,w=>b11=false→∃ A,x=.slice (some ⟨A,0,none⟩) 1 1∧w.heap[A]?=some (.cells #[.int .i64 0] 3 (0,0))
 |12,x,_=>x=.pointer (some ⟨Rb,3,none⟩)
 |14,x,_=>x=.pointer (some ⟨Rb,4,none⟩)
 |_,_,_=>True
structure Fl (d:Nat→Bool) (u0 t0:Value) (X:List RwX) (T:List Int) (x0:RwX) (y7 y11 u t cu ct:Value) (Xu:List RwX) (Tt:List Int):Prop where
 r0:d 7=false→u=u0∧Xu=X
 r1:d 7=true→Xu=X ++ [x0]∧y7=u∧d 6=true
 q0:d 11=false→t=t0∧Tt=T
 q1:d 11=true→Tt=T ++ [0]∧y11=t∧d 7=true
 c0:d 13=false→cu=u0
 c1:d 13=true→cu=u∧d 1=true∧d 3=true∧d 9=true∧d 11=true
 e0:d 15=false→ct=t0
 e1:d 15=true→ct=t∧d 13=true
 f6:d 6=true→d 5=true
def sl (j:Nat):Nat:=if j=14 then 13 else j
def LI (W:World) (g b:Nat) (L:List Int) (Rb:Nat) (pf ps pa:Int) (u0 t0:Value) (X:List RwX) (T:List Int) (bq:Nat) (x0:RwX) (pre post:List Value) (ds:List Deferred) (d:Nat→Bool) (a:Act) (w:World):Prop:=
 ∃ ys:List Value,ys.length=14∧a=⟨(pre ++ (ys ++ post)).toArray,ds⟩∧∃ u t cu ct Xu Tt,StL W g b L Rb pf ps pa w u t cu ct Xu Tt∧Fl d u0 t0 X T x0 (ys.getD 7 undef) (ys.getD 11 undef) u t cu ct Xu Tt∧
  ∀ j,j < 15→d j=true→sF Rb u0 t0 bq x0 (d 7) (d 11) j (ys.getD (sl j) undef) w
theorem slot_in {pre ys post:List Value} (hp:pre.length=26) {j:Nat} (hj:j < ys.length):(pre ++ (ys ++ post)).getD (26+j) undef=ys.getD j undef:=by
 rw[List.getD_eq_getElem?_getD,List.getElem?_append_right (by omega),List.getElem?_append_left (by omega),List.getD_eq_getElem?_getD,hp,Nat.add_sub_cancel_left]
theorem slot_set {pre ys post:List Value} (hp:pre.length=26) {j:Nat} (hj:j < ys.length) (v:Value):(pre ++ (ys ++ post)).set (26+j) v=pre ++ (ys.set j v ++ post):=by
 rw[List.set_append_right _ _ (by omega),List.set_append_left _ _ (by omega),hp,Nat.add_sub_cancel_left]
theorem sF.keep {Rb:Nat} {u0 t0:Value} {bq:Nat} {x0:RwX} {b7 b11 c7 c11:Bool} {j:Nat} {x:Value} {w w':World} (h:sF Rb u0 t0 bq x0 b7 b11 j x w) (h7:c7=false→b7=false) (h11:c11=false→b11=false)
  (hk6:c7=false→∀ (A:Nat) (cs:Array Value),w.heap[A]?=some (Obj.cells cs 45 (0,0))→w'.heap[A]?=some (Obj.cells cs 45 (0,0)))
  (hk10:c11=false→∀ (A:Nat) (cs:Array Value),w.heap[A]?=some (Obj.cells cs 3 (0,0))→w'.heap[A]?=some (Obj.cells cs 3 (0,0))):sF Rb u0 t0 bq x0 c7 c11 j x w':=by
 unfold sF at *
 split at h
 all_goals first
  |exact h
  |(intro e;obtain⟨A,h1,h2⟩:=h (h7 e);exact⟨A,h1,hk6 e A _ h2⟩)
  |(intro e;obtain⟨A,h1,h2⟩:=h (h11 e);exact⟨A,h1,hk10 e A _ h2⟩)
theorem Fl.slot {d d':Nat→Bool} {u0 t0:Value} {X:List RwX} {T:List Int} {x0:RwX} {y7 y11 u t cu ct:Value} {Xu:List RwX} {Tt:List Int} (h:Fl d u0 t0 X T x0 y7 y11 u t cu ct Xu Tt) (h7:d' 7=d 7) (h11:d' 11=d 11) (h13:d' 13=d 13) (h15:d' 15=d 15)
  (hup:∀ j,d j=true→d' j=true) (h6:d' 6=true→d' 5=true):Fl d' u0 t0 X T x0 y7 y11 u t cu ct Xu Tt where
 r0:=by rw[h7];exact h.r0
 r1:=by rw[h7];exact fun e=>⟨(h.r1 e).1,(h.r1 e).2.1,hup _ (h.r1 e).2.2⟩
 q0:=by rw[h11];exact h.q0
 q1:=by rw[h11,h7];exact h.q1
 c0:=by rw[h13];exact h.c0
 c1:=by rw[h13];exact fun e=>⟨(h.c1 e).1,hup _ (h.c1 e).2.1,hup _ (h.c1 e).2.2.1,hup _ (h.c1 e).2.2.2.1,hup _ (h.c1 e).2.2.2.2⟩
 e0:=by rw[h15];exact h.e0
 e1:=by rw[h15,h13];exact h.e1
 f6:=h6
theorem LI.at {W:World} {g b:Nat} {L:List Int} {Rb:Nat} {pf ps pa:Int} {u0 t0:Value} {X:List RwX} {T:List Int} {bq:Nat} {x0:RwX} {pre post:List Value} {ds:List Deferred} {d:Nat→Bool} {a:Act} {w:World} (h:LI W g b L Rb pf ps pa u0 t0 X T bq x0 pre post ds d a w) (hp:pre.length=26) (j s:Nat) (hs:s=26+sl j) (hj:j < 15) (hd:d j=true):sF Rb u0 t0 bq x0 (d 7) (d 11) j (a.tmps[s]?.getD undef) w:=by
 subst hs
 obtain⟨ys,hl,rfl,u,t,cu,ct,Xu,Tt,hS,hF,hq⟩:=h
 rw[tmps_list,slot_in hp (by unfold sl;split<;>omega)]
 exact hq j hj hd
theorem LI.pre {W:World} {g b:Nat} {L:List Int} {Rb:Nat} {pf ps pa:Int} {u0 t0:Value} {X:List RwX} {T:List Int} {bq:Nat} {x0:RwX} {pre post:List Value} {ds:List Deferred} {d:Nat→Bool} {a:Act} {w:World} (h:LI W g b L Rb pf ps pa u0 t0 X T bq x0 pre post ds d a w) (hp:pre.length=26) (j:Nat) (hj:j < 26):a.tmps[j]?.getD undef=pre.getD j undef:=by
 obtain⟨ys,hl,rfl,_⟩:=h
 rw[tmps_list,List.getD_eq_getElem?_getD,List.getElem?_append_left (by omega),←List.getD_eq_getElem?_getD]
theorem LI.st {W:World} {g b:Nat} {L:List Int} {Rb:Nat} {pf ps pa:Int} {u0 t0:Value} {X:List RwX} {T:List Int} {bq:Nat} {x0:RwX} {pre post:List Value} {ds:List Deferred} {d:Nat→Bool} {a:Act} {w:World} (h:LI W g b L Rb pf ps pa u0 t0 X T bq x0 pre post ds d a w) (hp:pre.length=26):∃ u t cu ct Xu Tt,StL W g b L Rb pf ps pa w u t cu ct Xu Tt∧Fl d u0 t0 X T x0 (a.tmps[33]?.getD undef) (a.tmps[37]?.getD undef) u t cu ct Xu Tt:=by
 obtain⟨ys,hl,rfl,u,t,cu,ct,Xu,Tt,hS,hF,hq⟩:=h
 refine⟨u,t,cu,ct,Xu,Tt,hS,?_⟩
 rw[tmps_list,tmps_list,show 33=26+7 from rfl,show 37=26+11 from rfl,slot_in hp (by omega),slot_in hp (by omega)]
 exact hF
theorem LI.put {W:World} {g b:Nat} {L:List Int} {Rb:Nat} {pf ps pa:Int} {u0 t0:Value} {X:List RwX} {T:List Int} {bq:Nat} {x0:RwX} {pre post:List Value} {ds:List Deferred} {d:Nat→Bool} {a:Act} {w:World} {w':World} (h:LI W g b L Rb pf ps pa u0 t0 X T bq x0 pre post ds d a w) (hp:pre.length=26) {k:Nat} {v:Value} (hk:k < 15) (h7:k≠7) (h11:k≠11) (h13:k≠13) (h6:k=6→d 5=true) (hd0:d k=false) (hv:sF Rb u0 t0 bq x0 (d 7) (d 11) k v w')
  (hs:∀ u t cu ct Xu Tt,StL W g b L Rb pf ps pa w u t cu ct Xu Tt→StL W g b L Rb pf ps pa w' u t cu ct Xu Tt) (hk2:∀ (A:Nat) (o:Obj),w.heap[A]?=some o→w'.heap[A]?=some o):LI W g b L Rb pf ps pa u0 t0 X T bq x0 pre post ds (fun i=>i == k || d i) (a.put (some (26+sl k)) v) (w'):=by
 obtain⟨ys,hl,rfl,u,t,cu,ct,Xu,Tt,hS,hF,hq⟩:=h
 have hsl:sl k < 14:=by unfold sl;split<;>omega
 have n7:(7 == k)=false:=by rw[beq_eq_false_iff_ne];omega
 have n11:(11 == k)=false:=by rw[beq_eq_false_iff_ne];omega
 have n13:(13 == k)=false:=by rw[beq_eq_false_iff_ne];omega
 have n15:(15 == k)=false:=by rw[beq_eq_false_iff_ne];omega
 have hg7:(ys.set (sl k) v).getD 7 undef=ys.getD 7 undef:=by
  rw[List.getD_eq_getElem?_getD,List.getElem?_set_ne (by unfold sl;split<;>omega),←List.getD_eq_getElem?_getD]
 have hg11:(ys.set (sl k) v).getD 11 undef=ys.getD 11 undef:=by
  rw[List.getD_eq_getElem?_getD,List.getElem?_set_ne (by unfold sl;split<;>omega),←List.getD_eq_getElem?_getD]
 refine⟨ys.set (sl k) v,by simpa using hl,by rw[←slot_set hp (by omega)];simp[Act.put],u,t,cu,ct,Xu,Tt,hs _ _ _ _ _ _ hS,?_,fun j hj hd=>?_⟩
 ·rw[hg7,hg11]
  refine hF.slot (by simp[n7]) (by simp[n11]) (by simp[n13]) (by simp[n15]) (fun j hj=>by simp[hj]) (fun e=>?_)
  by_cases e6:k=6
  ·simp[h6 e6]
  ·have n6:(6 == k)=false:=by rw[beq_eq_false_iff_ne];omega
   simp only[n6,Bool.false_or] at e
   simp[hF.f6 e]
 ·simp only[n7,n11,Bool.false_or]
  by_cases hij:j=k
  ·subst hij
   rw[List.getD_eq_getElem?_getD,List.getElem?_set_self (by omega)];exact hv
  ·have hne:(j == k)=false:=by rw[beq_eq_false_iff_ne];exact hij
   simp only[hne,Bool.false_or] at hd
   have hss:sl k≠sl j∨j=13:=by unfold sl;split<;>split<;>omega
   rcases hss with hss|rfl
   ·rw[List.getD_eq_getElem?_getD,List.getElem?_set_ne hss,←List.getD_eq_getElem?_getD]
    exact sF.keep (hq j hj hd) (fun e=>e) (fun e=>e) (fun _ A cs e=>hk2 A _ e) (fun _ A cs e=>hk2 A _ e)
   ·trivial
theorem keepA (w:World) (o:Obj):∀ (A:Nat) (o':Obj),w.heap[A]?=some o'→(w.alloc o).heap[A]?=some o':=fun A o' e=>
 (((zBr w.heap.size w).alloc (Nat.le_refl _) o).block A (by have:=(Array.getElem?_eq_some_iff.1 e).1;exact this)).trans e
theorem LI.app7 {W:World} {g b:Nat} {L:List Int} {Rb:Nat} {pf ps pa:Int} {u0 t0:Value} {X:List RwX} {T:List Int} {bq:Nat} {x0:RwX} {pre post:List Value} {ds:List Deferred} {d:Nat→Bool} {a:Act} {w:World} {w':World} (h:LI W g b L Rb pf ps pa u0 t0 X T bq x0 pre post ds d a w) (hp:pre.length=26) {v:Value} (hd0:d 7=false) (hd6:d 6=true) (hW:W.heap.size≤Rb) (hg:g < Rb) (hb:0 < L.length→b < Rb)
  (hu:RoV w' (Rb+2) v (X ++ [x0])) (hgr:w.grownBy w' u0.ownBlock):LI W g b L Rb pf ps pa u0 t0 X T bq x0 pre post ds (fun i=>i == 7 || d i) (a.put (some 33) v) (w'):=by
 obtain⟨ys,hl,rfl,u,t,cu,ct,Xu,Tt,hS,hF,hq⟩:=h
 obtain⟨rfl,rfl⟩:=hF.r0 hd0
 have d11:d 11=false:=by
  cases e:d 11 with
  |false=>rfl
  |true=>rw[(hF.q1 e).2.2] at hd0;cases hd0
 have d13:d 13=false:=by
  cases e:d 13 with
  |false=>rfl
  |true=>rw[(hF.c1 e).2.2.2.2] at d11;cases d11
 have d15:d 15=false:=by
  cases e:d 15 with
  |false=>rfl
  |true=>rw[(hF.e1 e).2] at d13;cases d13
 refine⟨ys.set 7 v,by simpa using hl,by rw[←slot_set hp (by omega)];simp[Act.put],v,t,cu,ct,Xu ++ [x0],Tt,hS.row hW hg hb hu hgr,?_,fun j hj hd=>?_⟩
 ·have hg11:(ys.set 7 v).getD 11 undef=ys.getD 11 undef:=by
   rw[List.getD_eq_getElem?_getD,List.getElem?_set_ne (by omega),←List.getD_eq_getElem?_getD]
  have hg7:(ys.set 7 v).getD 7 undef=v:=by
   rw[List.getD_eq_getElem?_getD,List.getElem?_set_self (by omega)];rfl
  rw[hg11,hg7]
  exact⟨fun e=>by simp at e,fun _=>⟨rfl,rfl,by simpa using hd6⟩,fun e=>hF.q0 d11,fun e=>by simp[d11] at e,fun _=>hF.c0 d13,fun e=>by simp[d13] at e,fun _=>hF.e0 d15,fun e=>by simp[d15] at e,fun _=>by simpa using hF.f6 hd6⟩
 ·by_cases hij:j=7
  ·subst hij;trivial
  ·have hne:(j == 7)=false:=by rw[beq_eq_false_iff_ne];exact hij
   have hd:d j=true:=by simpa[hne] using hd
   rw[List.getD_eq_getElem?_getD,List.getElem?_set_ne (by unfold sl;split<;>omega),←List.getD_eq_getElem?_getD]
   refine sF.keep (hq j hj hd) (fun e=>by simp at e) (fun e=>by simpa using e) (fun e=>by simp at e) (fun _ A cs e=>?_)
   exact (hgr.block A (Array.getElem?_eq_some_iff.1 e).1 (fun e2=>row_ne hS.ro e (by decide) e2.symm)).trans e
theorem LI.app11 {W:World} {g b:Nat} {L:List Int} {Rb:Nat} {pf ps pa:Int} {u0 t0:Value} {X:List RwX} {T:List Int} {bq:Nat} {x0:RwX} {pre post:List Value} {ds:List Deferred} {d:Nat→Bool} {a:Act} {w:World} {w':World} (h:LI W g b L Rb pf ps pa u0 t0 X T bq x0 pre post ds d a w) (hp:pre.length=26) {v:Value} (hd0:d 11=false) (hd7:d 7=true) (hW:W.heap.size≤Rb) (hg:g < Rb) (hb:0 < L.length→b < Rb)
  (hu:RowV w' (Rb+2) v (T ++ [0])) (hgr:w.grownBy w' t0.ownBlock):LI W g b L Rb pf ps pa u0 t0 X T bq x0 pre post ds (fun i=>i == 11 || d i) (a.put (some 37) v) (w'):=by
 obtain⟨ys,hl,rfl,u,t,cu,ct,Xu,Tt,hS,hF,hq⟩:=h
 obtain⟨rfl,rfl⟩:=hF.q0 hd0
 have d13:d 13=false:=by
  cases e:d 13 with
  |false=>rfl
  |true=>rw[(hF.c1 e).2.2.2.2] at hd0;cases hd0
 have d15:d 15=false:=by
  cases e:d 15 with
  |false=>rfl
  |true=>rw[(hF.e1 e).2] at d13;cases d13
 refine⟨ys.set 11 v,by simpa using hl,by rw[←slot_set hp (by omega)];simp[Act.put],u,v,cu,ct,Xu,Tt ++ [0],hS.tar hW hg hb hu hgr,?_,fun j hj hd=>?_⟩
 ·have hg7:(ys.set 11 v).getD 7 undef=ys.getD 7 undef:=by
   rw[List.getD_eq_getElem?_getD,List.getElem?_set_ne (by omega),←List.getD_eq_getElem?_getD]
  have hg11:(ys.set 11 v).getD 11 undef=v:=by
   rw[List.getD_eq_getElem?_getD,List.getElem?_set_self (by omega)];rfl
  rw[hg11,hg7]
  exact⟨fun e=>by simp[hd7] at e,fun _=>⟨(hF.r1 hd7).1,(hF.r1 hd7).2.1,by simpa using (hF.r1 hd7).2.2⟩,fun e=>by simp at e,fun e=>⟨rfl,rfl,by simpa using hd7⟩,fun _=>hF.c0 d13,fun e=>by simp[d13] at e,fun _=>hF.e0 d15,fun e=>by simp[d15] at e,fun e=>by simpa using hF.f6 (by simpa using e)⟩
 ·by_cases hij:j=11
  ·subst hij;trivial
  ·have hne:(j == 11)=false:=by rw[beq_eq_false_iff_ne];exact hij
   have hd:d j=true:=by simpa[hne] using hd
   rw[List.getD_eq_getElem?_getD,List.getElem?_set_ne (by unfold sl;split<;>omega),←List.getD_eq_getElem?_getD]
   exact sF.keep (hq j hj hd) (fun e=>by simp[hd7] at e) (fun e=>by simp at e) (fun e=>by simp[hd7] at e) (fun e=>by simp at e)
theorem LI.st13 {W:World} {g b:Nat} {L:List Int} {Rb:Nat} {pf ps pa:Int} {u0 t0:Value} {X:List RwX} {T:List Int} {bq:Nat} {x0:RwX} {pre post:List Value} {ds:List Deferred} {d:Nat→Bool} {a:Act} {w:World} (h:LI W g b L Rb pf ps pa u0 t0 X T bq x0 pre post ds d a w) (hp:pre.length=26) (hd0:d 13=false) (h1:d 1=true) (h3:d 3=true) (h9:d 9=true) (h11:d 11=true) (hW:W.heap.size≤Rb) (hg:g < Rb) (hb:0 < L.length→b < Rb) :
  LI W g b L Rb pf ps pa u0 t0 X T bq x0 pre post ds (fun i=>i == 13 || d i) (a) (w.setCell ⟨Rb,3,none⟩ (a.tmps[33]?.getD undef)):=by
 obtain⟨u,t,cu,ct,Xu,Tt,hS,hF⟩:=h.st hp
 have h':=h
 obtain⟨ys,hl,rfl,u',t',cu',ct',Xu',Tt',hS',hF',hq⟩:=h
 have h7:=(hF'.q1 h11).2.2
 have d15:d 15=false:=by
  cases e:d 15 with
  |false=>rfl
  |true=>rw[(hF.e1 e).2] at hd0;cases hd0
 have e7:(⟨(pre ++ (ys ++ post)).toArray,ds⟩:Act).tmps[33]?.getD undef=u':=by
  rw[tmps_list,show 33=26+7 from rfl,slot_in hp (by omega)];exact (hF'.r1 h7).2.1
 rw[e7]
 refine⟨ys,hl,rfl,u',t',u',ct',Xu',Tt',hS'.set3 hW hg hb u',?_,fun j hj hd=>?_⟩
 ·exact⟨fun e=>by simp[h7] at e,fun _=>⟨(hF'.r1 h7).1,(hF'.r1 h7).2.1,by simpa using (hF'.r1 h7).2.2⟩,fun e=>by simp[h11] at e,fun _=>⟨(hF'.q1 h11).1,(hF'.q1 h11).2.1,by simpa using h7⟩,fun e=>by simp at e,fun _=>⟨rfl,by simpa using h1,by simpa using h3,by simpa using h9,by simpa using h11⟩,fun _=>hF'.e0 d15,fun e=>by simp[d15] at e,fun e=>by simpa using hF'.f6 (by simpa using e)⟩
 ·by_cases hij:j=13
  ·subst hij;trivial
  ·have hne:(j == 13)=false:=by rw[beq_eq_false_iff_ne];exact hij
   have hd:d j=true:=by simpa[hne] using hd
   exact sF.keep (hq j hj hd) (fun e=>by simp[h7] at e) (fun e=>by simp[h11] at e) (fun e=>by simp[h7] at e) (fun e=>by simp[h11] at e)
theorem LI.st15 {W:World} {g b:Nat} {L:List Int} {Rb:Nat} {pf ps pa:Int} {u0 t0:Value} {X:List RwX} {T:List Int} {bq:Nat} {x0:RwX} {pre post:List Value} {ds:List Deferred} {d:Nat→Bool} {a:Act} {w:World} (h:LI W g b L Rb pf ps pa u0 t0 X T bq x0 pre post ds d a w) (hp:pre.length=26) (hd0:d 15=false) (h13:d 13=true) (hW:W.heap.size≤Rb) (hg:g < Rb) (hb:0 < L.length→b < Rb) :
  LI W g b L Rb pf ps pa u0 t0 X T bq x0 pre post ds (fun i=>i == 15 || d i) (a) (w.setCell ⟨Rb,4,none⟩ (a.tmps[37]?.getD undef)):=by
 obtain⟨ys,hl,rfl,u',t',cu',ct',Xu',Tt',hS',hF',hq⟩:=h
 have h11:=(hF'.c1 h13).2.2.2.2
 have h7:=(hF'.q1 h11).2.2
 have e11:(⟨(pre ++ (ys ++ post)).toArray,ds⟩:Act).tmps[37]?.getD undef=t':=by
  rw[tmps_list,show 37=26+11 from rfl,slot_in hp (by omega)];exact (hF'.q1 h11).2.1
 rw[e11]
 refine⟨ys,hl,rfl,u',t',cu',t',Xu',Tt',hS'.set4 hW hg hb t',?_,fun j hj hd=>?_⟩
 ·exact⟨fun e=>by simp[h7] at e,fun _=>⟨(hF'.r1 h7).1,(hF'.r1 h7).2.1,by simpa using (hF'.r1 h7).2.2⟩,fun e=>by simp[h11] at e,fun _=>⟨(hF'.q1 h11).1,(hF'.q1 h11).2.1,by simpa using h7⟩,fun e=>by simp[h13] at e,fun _=>⟨(hF'.c1 h13).1,by simpa using (hF'.c1 h13).2.1,by simpa using (hF'.c1 h13).2.2.1,by simpa using (hF'.c1 h13).2.2.2.1,by simpa using h11⟩,fun e=>by simp at e,fun _=>⟨rfl,by simpa using h13⟩,fun e=>by simpa using hF'.f6 (by simpa using e)⟩
 ·have hne:(j == 15)=false:=by rw[beq_eq_false_iff_ne];omega
  have hd:d j=true:=by simpa[hne] using hd
  exact sF.keep (hq j hj hd) (fun e=>by simp[h7] at e) (fun e=>by simp[h11] at e) (fun e=>by simp[h7] at e) (fun e=>by simp[h11] at e)
theorem list14 {ys:List Value} (h:ys.length=14):∃ y0 y1 y2 y3 y4 y5 y6 y7 y8 y9 y10 y11 y12 y13,ys=[y0,y1,y2,y3,y4,y5,y6,y7,y8,y9,y10,y11,y12,y13]:=by
 match ys,h with
 |[y0,y1,y2,y3,y4,y5,y6,y7,y8,y9,y10,y11,y12,y13],_=>exact⟨_,_,_,_,_,_,_,_,_,_,_,_,_,_,rfl⟩
theorem regionLI {P:Program} {id:Nat} {Q:Exit→Act→World→Prop} {FR:List Value} {ds:List Deferred} {wr:World} {l:List Oper} {W:World} {g b:Nat} {L:List Int} {Rb:Nat} {pf ps pa:Int} {u0 t0:Value} {X:List RwX} {T:List Int} (bq:Nat) (x0:RwX)
  (hm:P.follows .mixedOrders=true) (hB:RX.chkI l=true) (hl:FR.length=109) (hn:l.length=16) (h0:StL W g b L Rb pf ps pa wr u0 t0 u0 t0 X T)
  (hs:∀ pre post:List Value,pre.length=26→pre.getD 3 undef=FR.getD 3 undef→RX.StepsI P (LI W g b L Rb pf ps pa u0 t0 X T bq x0 pre post ds) 0 l)
  (hend:∀ (y0 y1 y2 y3 y4 y5 y6 y7 y8 y9 y10 y11 y12 y13:Value) (w':World) (u t:Value),StL W g b L Rb pf ps pa w' u t u t (X ++ [x0]) (T ++ [0])→Q .normal ⟨(FR.take 26 ++ ([y0,y1,y2,y3,y4,y5,y6,y7,y8,y9,y10,y11,y12,y13] ++ FR.drop 40)).toArray,ds⟩ w') :
  (Code.region id l.toArray true).wp P Q ⟨FR.toArray,ds⟩ wr:=by
 refine RX.regionI (LI W g b L Rb pf ps pa u0 t0 X T bq x0 (FR.take 26) (FR.drop 40) ds) hm hB ?_ (hs _ _ (by rw[List.length_take];omega) ?_) ?_
 ·refine⟨(FR.drop 26).take 14,by rw[List.length_take,List.length_drop];omega,?_,u0,t0,u0,t0,X,T,h0.drew,⟨fun _=>⟨rfl,rfl⟩,fun e=>(by cases e),fun _=>⟨rfl,rfl⟩,fun e=>(by cases e),fun _=>rfl,fun e=>(by cases e),fun _=>rfl,fun e=>(by cases e),fun e=>(by cases e)⟩,fun j _ e=>(by cases e)⟩
  rw[show List.drop 40 FR=List.drop 14 (List.drop 26 FR) by rw[List.drop_drop],List.take_append_drop,List.take_append_drop]
 ·rw[List.getD_eq_getElem?_getD,List.getElem?_take_of_lt (by omega),←List.getD_eq_getElem?_getD]
 ·rintro d a w' hall ⟨ys,hy,rfl,u,t,cu,ct,Xu,Tt,hS,hF,_⟩
  obtain⟨y0,y1,y2,y3,y4,y5,y6,y7,y8,y9,y10,y11,y12,y13,rfl⟩:=list14 hy
  obtain⟨rfl,_,_⟩:=hF.r1 (hall 7 (by omega))
  obtain⟨rfl,_,_⟩:=hF.q1 (hall 11 (by omega))
  obtain⟨rfl,_⟩:=hF.c1 (hall 13 (by omega))
  obtain⟨rfl,_⟩:=hF.e1 (hall 15 (by omega))
  exact hend y0 y1 y2 y3 y4 y5 y6 y7 y8 y9 y10 y11 y12 y13 w' _ _ hS
def rowsAt (w:World) (Rb:Nat):Nat:=match w.cell? ⟨Rb,3,none⟩ with
 |some (.slice _ n _)=>n
 |_=>0
theorem rowsAt_of {w:World} {Rb:Nat} {p:Option Addr} {n c:Nat} (h:w.cell? ⟨Rb,3,none⟩=some (.slice p n c)):rowsAt w Rb=n:=by
 unfold rowsAt;rw[h]
theorem VsAt.five {w:World} {R:Nat} {a b c d e:Value} (h:VsAt w R [a,b,c,d,e]):(w.cell? ⟨R,0,none⟩=some a∧w.cell? ⟨R,1,none⟩=some b∧w.cell? ⟨R,2,none⟩=some c∧w.cell? ⟨R,3,none⟩=some d∧w.cell? ⟨R,4,none⟩=some e)∧w.frozen? ⟨R,0,none⟩=false∧w.frozen? ⟨R,1,none⟩=false∧w.frozen? ⟨R,2,none⟩=false∧w.frozen? ⟨R,3,none⟩=false∧w.frozen? ⟨R,4,none⟩=false:=
 ⟨⟨(h 0 (by simp)).1,(h 1 (by simp)).1,(h 2 (by simp)).1,(h 3 (by simp)).1,(h 4 (by simp)).1⟩,(h 0 (by simp)).2,(h 1 (by simp)).2,(h 2 (by simp)).2,(h 3 (by simp)).2,(h 4 (by simp)).2⟩
theorem VsAt.mk5 {w:World} {R:Nat} {a b c d e:Value} (h:w.cell? ⟨R,0,none⟩=some a∧w.cell? ⟨R,1,none⟩=some b∧w.cell? ⟨R,2,none⟩=some c∧w.cell? ⟨R,3,none⟩=some d∧w.cell? ⟨R,4,none⟩=some e) (hf:∀ k,w.frozen? ⟨R,k,none⟩=false):VsAt w R [a,b,c,d,e]:=fun k hk=>by
 match k,hk with
 |0,_=>exact⟨h.1,hf 0⟩
 |1,_=>exact⟨h.2.1,hf 1⟩
 |2,_=>exact⟨h.2.2.1,hf 2⟩
 |3,_=>exact⟨h.2.2.2.1,hf 3⟩
 |4,_=>exact⟨h.2.2.2.2,hf 4⟩
 |k+5,hk=>simp at hk;omega
def RoF (w:World) (base:Nat) (v:Value) (X:List RwX):Prop:=∃ p cap b,v=.slice p X.length cap∧X.length≤cap∧(0 < X.length→p=some ⟨b,0,none⟩∧base≤b∧b < w.heap.size)∧RosAt w b X
def TaF (w:World) (base:Nat) (v:Value) (T:List Int):Prop:=∃ p cap b,v=.slice p T.length cap∧T.length≤cap∧(0 < T.length→p=some ⟨b,0,none⟩∧base≤b∧b < w.heap.size)∧IntsAt w b 0 T
theorem RoV.rof {w:World} {base:Nat} {v:Value} {X:List RwX} (h:RoV w base v X):RoF w base v X:=h.form
theorem RowV.taf {w:World} {base:Nat} {v:Value} {T:List Int} (h:RowV w base v T):TaF w base v T:=h.form
theorem RoF.grown {w w':World} {base:Nat} {v:Value} {X:List RwX} {row:Option Nat} (h:RoF w base v X) (hg:w.grownBy w' row) (hr:∀ k,row=some k→k < base):RoF w' base v X:=by
 obtain⟨p,cap,b,rfl,hc,hp,hx⟩:=h
 refine⟨p,cap,b,rfl,hc,fun h0=>⟨(hp h0).1,(hp h0).2.1,Nat.lt_of_lt_of_le (hp h0).2.2 hg.size⟩,fun k hk=>?_⟩
 have hb:=(hp (by omega)).2.1
 exact RosAt.cellsOf hx (fun o v e=>hg.cell e (fun e2=>by have:=hr b e2.symm;omega)) k hk
theorem TaF.grown {w w':World} {base:Nat} {v:Value} {T:List Int} {row:Option Nat} (h:TaF w base v T) (hg:w.grownBy w' row) (hr:∀ k,row=some k→k < base):TaF w' base v T:=by
 obtain⟨p,cap,b,rfl,hc,hp,hx⟩:=h
 refine⟨p,cap,b,rfl,hc,fun h0=>⟨(hp h0).1,(hp h0).2.1,Nat.lt_of_lt_of_le (hp h0).2.2 hg.size⟩,fun k hk=>?_⟩
 obtain⟨_,hb,hb2⟩:=hp (by omega)
 exact IntsAt.block hx (hg.block b hb2 (fun e2=>by have:=hr b e2.symm;omega)) k hk
theorem sysOwn_of {w:World} {base:Nat} {f s a:Int} {vr vt:Value} {X:List RwX} {T:List Int} (hR:RoF w base vr X) (hT:TaF w base vt T) (hX:∀ x∈X,x.1.sh.length≤x.2.2∧ShOwn w base x.2.1 x.1.sh) :
  SysOwn w base (.agg #[.int .i64 f,.int .i64 s,.int .i64 a,vr,vt]) ⟨f,s,a,X.map (·.1),T⟩:=by
 obtain⟨p1,c1,b1,rfl,h1,h2,h3⟩:=hR
 obtain⟨p2,c2,b2,rfl,h4,h5,h6⟩:=hT
 exact⟨p1,c1,p2,c2,X,b1,b2,by simp,rfl,by simpa using h1,h4,fun h0=>h2 (by simpa using h0),h3,hX,h5,h6⟩
theorem RoF.mono {w:World} {base base':Nat} {v:Value} {X:List RwX} (h:RoF w base v X) (hb:base'≤base):RoF w base' v X:=by
 obtain⟨p,cap,b,e,hc,hp,hx⟩:=h
 exact⟨p,cap,b,e,hc,fun h0=>⟨(hp h0).1,Nat.le_trans hb (hp h0).2.1,(hp h0).2.2⟩,hx⟩
theorem TaF.mono {w:World} {base base':Nat} {v:Value} {T:List Int} (h:TaF w base v T) (hb:base'≤base):TaF w base' v T:=by
 obtain⟨p,cap,b,e,hc,hp,hx⟩:=h
 exact⟨p,cap,b,e,hc,fun h0=>⟨(hp h0).1,Nat.le_trans hb (hp h0).2.1,(hp h0).2.2⟩,hx⟩
theorem encR_len (X:List RwX):(X.flatMap encR).length=X.length*4:=by
 induction X with
 |nil=>rfl
 |cons c X ih=>simp[List.flatMap_cons,encR] at ih ⊢;omega
theorem encR_one (X:List RwX):∀ u∈X.flatMap encR,u.oneCell'=true:=fun u hu=>by
 obtain⟨c,_,hc⟩:=List.mem_flatMap.1 hu
 simp[encR] at hc
 rcases hc with rfl|rfl|rfl|rfl<;>rfl
theorem RoV.cell0 {w:World} {base b n c:Nat} {X:List RwX} (h:RoV w base (.slice (some ⟨b,0,none⟩) n c) X) (h0:0 < X.length):w.cell? ⟨b,0,none⟩=some (.slice X[0].2.1 X[0].1.sh.length X[0].2.2)∧w.cell? ⟨b,1,none⟩=some (.int .i64 X[0].1.value)∧w.cell? ⟨b,2,none⟩=some (.int .i64 X[0].1.weight)∧w.cell? ⟨b,3,none⟩=some (.int .i64 X[0].1.report):=by
 obtain⟨p,cap,bb,e,-,hp,hx⟩:=h.form
 injection e with e _ _
 have e9:=(hp h0).1
 rw[←e] at e9
 injection e9 with e9
 injection e9 with e9 _ _
 subst e9
 have k0:=hx 0 h0 0 (by omega)
 have k1:=hx 0 h0 1 (by omega)
 have k2:=hx 0 h0 2 (by omega)
 have k3:=hx 0 h0 3 (by omega)
 simp only[encR,Nat.zero_mul,Nat.zero_add,List.getElem?_cons_zero,List.getElem?_cons_succ] at k0 k1 k2 k3
 exact⟨k0,k1,k2,k3⟩
theorem RosAt.news {w:World} {b:Nat} {X:List RwX} (h:RosAt w b X):∀ j u,(X.flatMap encR)[j]?=some u→w.cell? ((⟨b,0,none⟩:Addr).add j)=some u:=fun j u hj=>by
 have hjl:j < X.length*4:=by
  rw[←encR_len]
  exact Classical.byContradiction fun hh=>by rw[List.getElem?_eq_none (by omega)] at hj;cases hj
 have hd:j=j / 4*4+j % 4:=by omega
 have hk:j / 4 < X.length:=by omega
 rw[Addr.add_lit,Nat.zero_add]
 have e:=encR_get X (j / 4) hk (j % 4) (by omega)
 rw[←hd] at e
 have c:=h (j / 4) hk (j % 4) (by omega)
 rw[←hd,←e,hj] at c
 exact c
theorem RosAt.put {w:World} {b:Nat} {X:List RwX} (h:RosAt w b X) {k:Nat} (hk:k < X.length) (x:RwX):RosAt ((((w.setCell ⟨b,k*4,none⟩ (.slice x.2.1 x.1.sh.length x.2.2)).setCell ⟨b,k*4+1,none⟩ (.int .i64 x.1.value)).setCell ⟨b,k*4+2,none⟩ (.int .i64 x.1.weight)).setCell ⟨b,k*4+3,none⟩ (.int .i64 x.1.report)) b (X.set k x):=by
 intro m hm j hj
 rw[List.length_set] at hm
 have hc:∀ j,j < 4→(w.cell? ⟨b,k*4+j,none⟩).isSome=true:=fun j hj=>by
  rw[h k hk j hj,List.getElem?_eq_getElem (by simp[encR];omega)];rfl
 by_cases e:k=m
 ·subst e
  rw[List.getElem_set_self]
  have c0:=hc 0 (by omega)
  have c1:=hc 1 (by omega)
  have c2:=hc 2 (by omega)
  have c3:=hc 3 (by omega)
  rw[Nat.add_zero] at c0
  match j,hj with
  |0,_=>
   simp only[Nat.add_zero]
   rw[zK _ _ _ _ (by simp),zK _ _ _ _ (by simp),zK _ _ _ _ (by simp),zL _ _ _ c0];rfl
  |1,_=>
   rw[zK _ _ _ _ (by simp),zK _ _ _ _ (by simp),zL _ _ _ (by rw[zK _ _ _ _ (by simp)];exact c1)];rfl
  |2,_=>
   rw[zK _ _ _ _ (by simp),zL _ _ _ (by rw[zK _ _ _ _ (by simp),zK _ _ _ _ (by simp)];exact c2)];rfl
  |3,_=>
   rw[zL _ _ _ (by rw[zK _ _ _ _ (by simp),zK _ _ _ _ (by simp),zK _ _ _ _ (by simp)];exact c3)];rfl
  |j+4,hj=>omega
 ·rw[List.getElem_set_ne e,zK _ _ _ _ (by simp<;>omega),zK _ _ _ _ (by simp<;>omega),zK _ _ _ _ (by simp<;>omega),zK _ _ _ _ (by simp<;>omega)]
  exact h m hm j hj
theorem spoilsys_any (w:World) (g b:Nat) (L:List Int) (i:Nat) (h:CodesAt w g b L i) (v:Value) (S:Sy) (base B:Nat) (hS:SysOwn w base v S) (hgb:g < base) (hbw:base≤w.heap.size) (hl1:S.rows.length≤1000) (hl2:S.targets.length≤1000) (hl3:∀ r∈S.rows,r.sh.length≤B) (hB:B≤100000) :
  Calls Tryz.prog 11 #[.pointer (some ⟨g,0,none⟩),v] w fun e w'=>∃ v' S',e=.returned v'∧SysOwn w' base v' S'∧S'.rows.length≤S.rows.length+201∧S'.targets.length≤S.targets.length+201∧(∀ r∈S'.rows,r.sh.length≤2*B)∧w.grownBy w' (some g)∧∃ j,CodesAt w' g b L j:=by
 obtain⟨f,s,a,RR,T⟩:=S
 obtain⟨p1,c1,p2,c2,X,b1,b2,rfl,hRX,hc1,hc2,hp1,hXat,hXS,hp2,hTat⟩:=hS
 dsimp only at hRX hc1 hc2 hp1 hp2 hTat hl1 hl2 hl3 ⊢
 subst hRX
 simp only[List.length_map] at hc1 hp1 hl1 ⊢
 have hXB:∀ x∈X,x.1.sh.length≤B:=fun x hx=>hl3 x.1 (List.mem_map.2 ⟨x,hx,rfl⟩)
 have hg:=h.lt
 have hbl:0 < L.length→b < w.heap.size:=fun h0=>h.ltb h0
 have hRN:∀ w',Below w.heap.size w w'→0 < X.length→∃ ad,p1=some ad∧∀ j u,(X.flatMap encR)[j]?=some u→w'.cell? (ad.add j)=some u:=fun w' hb h0=>⟨⟨b1,0,none⟩,(hp1 h0).1,RosAt.news (RosAt.cellsOf hXat (fun o v e=>zP hb e))⟩
 have hTN:∀ w',Below w.heap.size w w'→0 < T.length→∃ ad,p2=some ad∧∀ j u,(T.map (Value.int .i64))[j]?=some u→w'.cell? (ad.add j)=some u:=fun w' hb h0=>⟨⟨b2,0,none⟩,(hp2 h0).1,vec_news (fun k hk=>zP hb (hTat k hk).1)⟩
 have HRN:=zN hRN
 have HTN:=zN hTN
 have HXS:=zN hXS
 have HXB:=zN hXB
 clear hRN hTN hXS hXB hl3 hp1 hp2 hXat hTat hc1 hc2
 go_enter Tryz.func11,Tryz.ntmps11
 go_wp2_with (at_builtin;refine Hid.out ?_)
 refine zN ?_
 refine RX.wpl_clone (by rfl) elRow _ _ (by rfl) (w.heap.size+2) (by rfl) p1 X.length c1 (X.flatMap encR) (by rfl) (encR_len X) (HRN.out _ (by repeat (first|(with_reducible first|assumption|exact zBr _ _|refine zBs ?_ (by first|omega|(simp<;>omega)) _|refine zBa ?_ (by first|omega|(simp<;>omega)) _|apply zBd)|assumption))) (encR_one X) (by omega) (by omega) (by simp) ?_
 intro v1 w1 hown hnil hb1 hg1
 clear hnil
 obtain⟨Rb,hRb⟩:∃ Rb,Rb=w.heap.size:=⟨_,rfl⟩
 have hVR:VsAt w1 Rb [.int .i64 f,.int .i64 s,.int .i64 a,.slice p1 X.length c1,.slice p2 T.length c2]:=by
  rw[hRb]
  refine VsAt.below (w:=((w.alloc (.cells #[.int .i64 f,.int .i64 s,.int .i64 a,.slice p1 X.length c1,.slice p2 T.length c2] 27)).alloc (.cells #[.int .i64 0,.int .i64 0,.int .i64 0,.slice none 0 0,.slice none 0 0] 27))) (VsAt.mk5 ⟨(by simp[zO,zJ,zQ]),(by simp[zO,zJ,zQ]),(by simp[zO,zJ,zQ]),(by simp[zO,zJ,zQ]),(by simp[zO,zJ,zQ])⟩ (fun k=>by simp)) (by simpa using hb1)
 have hVZ:VsAt w1 (Rb+1) [.int .i64 0,.int .i64 0,.int .i64 0,.slice none 0 0,.slice none 0 0]:=by
  rw[hRb]
  refine VsAt.below (w:=((w.alloc (.cells #[.int .i64 f,.int .i64 s,.int .i64 a,.slice p1 X.length c1,.slice p2 T.length c2] 27)).alloc (.cells #[.int .i64 0,.int .i64 0,.int .i64 0,.slice none 0 0,.slice none 0 0] 27))) (VsAt.mk5 ⟨(by simp[zO,zJ,zQ]),(by simp[zO,zJ,zQ]),(by simp[zO,zJ,zQ]),(by simp[zO,zJ,zQ]),(by simp[zO,zJ,zQ])⟩ (fun k=>by simp)) (by simpa using hb1)
 have hB0:Below w.heap.size w w1:=Below.trans (show Below w.heap.size w ((w.alloc (.cells #[.int .i64 f,.int .i64 s,.int .i64 a,.slice p1 X.length c1,.slice p2 T.length c2] 27)).alloc (.cells #[.int .i64 0,.int .i64 0,.int .i64 0,.slice none 0 0,.slice none 0 0] 27)) from (by repeat (first|(with_reducible first|assumption|exact zBr _ _|refine zBs ?_ (by first|omega|(simp<;>omega)) _|refine zBa ?_ (by first|omega|(simp<;>omega)) _|apply zBd)|assumption))) (hb1.mono (by omega))
 have hC:=h.below hB0
 have hRo:RoV w1 (w.heap.size+2) v1 X:=hown
 obtain⟨q1,e1,rfl,he1⟩:=own_slice hown
 have hgR:g < Rb:=by omega
 have hbR:0 < L.length→b < Rb:=fun h0=>by have:=hbl h0;omega
 have hgn:g≠Rb:=by omega
 have hbn:0 < L.length→b≠Rb:=fun h0=>by have:=hbR h0;omega
 have hgn1:g≠Rb+1:=by omega
 have hbn1:0 < L.length→b≠Rb+1:=fun h0=>by have:=hbR h0;omega
 rw[←hRb] at hRo ⊢
 have HRB:=zN hRb
 have HL:=zN (And.intro hl1 hl2)
 clear hb1 hg1 h hRb hbl hg hown
 have hVR2:=hVR.set 3 (.slice q1 X.length e1)
 simp only[List.set_cons_zero,List.set_cons_succ] at hVR2
 have hVZ2:=hVZ.grown (grownBy_setCell w1 Rb 3 (.slice q1 X.length e1)) (by simp)
 have hRo2:=hRo.kept (grownBy_setCell w1 Rb 3 (.slice q1 X.length e1)) (fun k hk=>by injection hk with hk;omega)
 have hB2:Below w.heap.size w (w1.setCell ⟨Rb,3,none⟩ (.slice q1 X.length e1)):=hB0.setCell (by have:=HRB.out;simp;omega) _
 have hC2:=hC.set1 hgn hbn 3 (.slice q1 X.length e1)
 obtain⟨⟨r0,r1,r2,r3,r4⟩,rf0,rf1,rf2,rf3,rf4⟩:=hVR.five
 go_wp2_with (at_builtin;refine Hid.out ?_)
 refine zN ?_
 clear r0 r1 r2 r3 r4 rf0 rf1 rf2 rf3 rf4 hVR hVZ hRo hB0 hC
 generalize w1.setCell ⟨Rb,3,none⟩ (.slice q1 X.length e1)=V1 at *
 clear w1
 have hsz:Rb+2≤V1.heap.size:=zM _ _ hVZ2.five.1.1
 refine RX.wpl_clone (by rfl) elInt _ _ (by rfl) V1.heap.size (by rfl) p2 T.length c2 (T.map (Value.int .i64)) (by rfl) (by simp) (HTN.out _ hB2) (by simp[Value.oneCell']) (by omega) (by omega) (Nat.le_refl _) ?_
 intro v2 w2 hown hnil hb1 hg1
 clear hnil
 obtain⟨A1,hA1⟩:∃ A1,A1=V1.heap.size:=⟨_,rfl⟩
 have hTo:RowV w2 A1 v2 T:=by rw[hA1];exact hown
 have hA2:Rb+2≤A1:=by omega
 have hA4:A1≤w2.heap.size:=by rw[hA1];exact hb1.size
 have HUP:Hid (∀ k,(Value.slice q1 X.length e1).ownBlock=some k→k < A1):=zN (fun k hk=>by rw[hA1];exact (World.ownsRow.lt hRo2 k hk).2)
 have hVR:=hVR2.below hb1
 have hVZ:=hVZ2.below hb1
 have hRo:RoV w2 (Rb+2) (.slice q1 X.length e1) X:=own_below hRo2 hb1
 have hB0:=hB2.trans (hb1.mono hB2.size)
 have hC:=hC2.below hb1
 clear hVR2 hVZ2 hRo2 hB2 hC2 hb1 hg1 hsz hown hA1
 clear V1
 obtain⟨q2,e2,rfl,he2⟩:=own_slice hTo
 have hVRn:=hVR.set 4 (.slice q2 T.length e2)
 simp only[List.set_cons_zero,List.set_cons_succ] at hVRn
 have hVZn:=hVZ.grown (grownBy_setCell w2 Rb 4 (.slice q2 T.length e2)) (by simp)
 have hRon:=hRo.kept (grownBy_setCell w2 Rb 4 (.slice q2 T.length e2)) (fun k hk=>by injection hk with hk;omega)
 have hTon:=hTo.kept (grownBy_setCell w2 Rb 4 (.slice q2 T.length e2)) (fun k hk=>by injection hk with hk;omega)
 have hBn:Below w.heap.size w (w2.setCell ⟨Rb,4,none⟩ (.slice q2 T.length e2)):=hB0.setCell (by have:=HRB.out;simp;omega) _
 have hCn:=hC.set1 hgn hbn 4 (.slice q2 T.length e2)
 have hA5:A1≤(w2.setCell ⟨Rb,4,none⟩ (.slice q2 T.length e2)).heap.size:=by rw[World.size_setCell];exact hA4
 clear hA4
 obtain⟨⟨r0,r1,r2,r3,r4⟩,rf0,rf1,rf2,rf3,rf4⟩:=hVR.five
 go_wp2_with fail
 clear r0 r1 r2 r3 r4 rf0 rf1 rf2 rf3 rf4 hVR hVZ hRo hTo hB0 hC
 generalize w2.setCell ⟨Rb,4,none⟩ (.slice q2 T.length e2)=V2 at *
 clear w2
 refine (next_any _ g b L i 7 hCn (by omega)).mono ?_
 rintro e w3 ⟨r,rfl,hr,hg3,j3,hC⟩
 have hVR:=hVRn.grown hg3 (by simp;omega)
 have hVZ:=hVZn.grown hg3 (by simp;omega)
 have hRo:=hRon.kept hg3 (fun k hk=>by injection hk with hk;omega)
 have hTo:=hTon.kept hg3 (fun k hk=>by injection hk with hk;omega)
 have hG:w.grownBy w3 (some g):=(grw_below hBn _).trans hg3
 have HA3:Hid (A1≤w3.heap.size):=zN (by have:=hg3.size;omega)
 clear hA5
 clear hVRn hVZn hRon hTon hBn hCn hg3
 clear V2
 have hr6:r=0∨r=1∨r=2∨r=3∨r=4∨r=5∨r=6:=by omega
 clear hr
 rcases hr6 with rfl|rfl|rfl|rfl|rfl|rfl|rfl
 ·go_wp2_with fail
  refine (int_any w3 g b L j3 hC).mono ?_
  rintro e w4 ⟨x,rfl,hx1,hx2,hg4,j4,hC4⟩
  have hVR4:=hVR.grown hg4 (by simp;omega)
  have hVRn:=hVR4.set 0 (.int .i64 x)
  simp only[List.set_cons_zero,List.set_cons_succ] at hVRn
  have hVZn:=(hVZ.grown hg4 (by simp;omega)).grown (grownBy_setCell w4 Rb 0 (.int .i64 x)) (by simp)
  have HRoN:=zN ((hRo.kept hg4 (fun k hk=>by injection hk with hk;omega)).kept (grownBy_setCell w4 Rb 0 (.int .i64 x)) (fun k hk=>by injection hk with hk;omega))
  have HToN:=zN ((hTo.kept hg4 (fun k hk=>by injection hk with hk;omega)).kept (grownBy_setCell w4 Rb 0 (.int .i64 x)) (fun k hk=>by injection hk with hk;omega))
  have hGn:w.grownBy (w4.setCell ⟨Rb,0,none⟩ (.int .i64 x)) (some g):=grw_set (hG.trans hg4) (.inr (by have:=HRB.out;omega))
  have hCn:=hC4.set1 hgn hbn 0 (.int .i64 x)
  obtain⟨⟨y0,y1,y2,y3,y4⟩,yf0,yf1,yf2,yf3,yf4⟩:=hVR4.five
  have HST:=zN (And.intro hVRn (And.intro hVZn (And.intro hGn hCn)))
  clear hVRn hVZn hGn hCn hVR4 hVR hVZ hG hC hg4 hC4 hRo hTo
  obtain⟨hVR,hVZ,hG,hC⟩:=HST.out
  obtain⟨⟨r0,r1,r2,r3,r4⟩,-⟩:=hVR.five
  obtain⟨⟨z0,z1,z2,z3,z4⟩,zf0,zf1,zf2,zf3,zf4⟩:=hVZ.five
  have hVZ4:=(((((hVZ.set 0 (.int .i64 x)).set 1 (.int .i64 s)).set 2 (.int .i64 a)).set 3 (.slice q1 X.length e1)).set 4 (.slice q2 T.length e2))
  simp only[List.set_cons_zero,List.set_cons_succ] at hVZ4
  obtain⟨⟨t0,t1,t2,t3,t4⟩,-⟩:=hVZ4.five
  have hset:(w4.setCell ⟨Rb,0,none⟩ (.int .i64 x)).grownBy ((((((w4.setCell ⟨Rb,0,none⟩ (.int .i64 x)).setCell ⟨Rb+1,0,none⟩ (.int .i64 x)).setCell ⟨Rb+1,1,none⟩ (.int .i64 s)).setCell ⟨Rb+1,2,none⟩ (.int .i64 a)).setCell ⟨Rb+1,3,none⟩ (.slice q1 X.length e1)).setCell ⟨Rb+1,4,none⟩ (.slice q2 T.length e2)) (some (Rb+1)):=(((((grownBy_setCell _ _ _ _).trans (grownBy_setCell _ _ _ _)).trans (grownBy_setCell _ _ _ _)).trans (grownBy_setCell _ _ _ _)).trans (grownBy_setCell _ _ _ _))
  have hbR2:base≤Rb+2:=by have:=HRB.out;omega
  have hRZ:=(HRoN.out.rof).grown hset (fun k hk=>by injection hk with hk;omega)
  have hTZ:=((HToN.out.taf.mono hA2)).grown hset (fun k hk=>by injection hk with hk;omega)
  have HGF:Hid (w.grownBy ((((((w4.setCell ⟨Rb,0,none⟩ (.int .i64 x)).setCell ⟨Rb+1,0,none⟩ (.int .i64 x)).setCell ⟨Rb+1,1,none⟩ (.int .i64 s)).setCell ⟨Rb+1,2,none⟩ (.int .i64 a)).setCell ⟨Rb+1,3,none⟩ (.slice q1 X.length e1)).setCell ⟨Rb+1,4,none⟩ (.slice q2 T.length e2)) (some g)):=zN (grw_set (grw_set (grw_set (grw_set (grw_set hG (.inr (by have:=HRB.out;omega))) (.inr (by have:=HRB.out;omega))) (.inr (by have:=HRB.out;omega))) (.inr (by have:=HRB.out;omega))) (.inr (by have:=HRB.out;omega)))
  have hSZ:∀ xr∈X,xr.1.sh.length≤xr.2.2∧ShOwn ((((((w4.setCell ⟨Rb,0,none⟩ (.int .i64 x)).setCell ⟨Rb+1,0,none⟩ (.int .i64 x)).setCell ⟨Rb+1,1,none⟩ (.int .i64 s)).setCell ⟨Rb+1,2,none⟩ (.int .i64 a)).setCell ⟨Rb+1,3,none⟩ (.slice q1 X.length e1)).setCell ⟨Rb+1,4,none⟩ (.slice q2 T.length e2)) base xr.2.1 xr.1.sh:=fun xr hxr=>⟨(HXS.out xr hxr).1,(HXS.out xr hxr).2.grown HGF.out (fun k hk=>by injection hk with hk;omega)⟩
  have HSO:=zN (sysOwn_of (f:=x) (s:=s) (a:=a) (hRZ.mono hbR2) (hTZ.mono hbR2) hSZ)
  have HCF:=zN (((((hC.set1 hgn1 hbn1 0 (.int .i64 x)).set1 hgn1 hbn1 1 (.int .i64 s)).set1 hgn1 hbn1 2 (.int .i64 a)).set1 hgn1 hbn1 3 (.slice q1 X.length e1)).set1 hgn1 hbn1 4 (.slice q2 T.length e2))
  have HT:=zN (And.intro t0 (And.intro t1 (And.intro t2 (And.intro t3 t4))))
  clear hVZ4 hVR hVZ hG hC t0 t1 t2 t3 t4 hRZ hTZ hSZ hset
  go_wp2
  obtain⟨t0,t1,t2,t3,t4⟩:=HT.out
  refine bodyPost_ret (v:=.agg #[.int .i64 x,.int .i64 s,.int .i64 a,.slice q1 X.length e1,.slice q2 T.length e2]) ?_ rfl ⟨_,_,rfl,HSO.out,by simp,by show T.length≤T.length+201;omega,fun r hr=>by obtain⟨x,hx,rfl⟩:=List.mem_map.1 hr;have:=HXB.out x hx;omega,HGF.out,j4,HCF.out⟩
  simp[results,Tryz.results11,go_sem,t0,t1,t2,t3,t4]
 ·go_wp2_with fail
  refine (int_any w3 g b L j3 hC).mono ?_
  rintro e w4 ⟨x,rfl,hx1,hx2,hg4,j4,hC4⟩
  have hVR4:=hVR.grown hg4 (by simp;omega)
  have hVRn:=hVR4.set 1 (.int .i64 x)
  simp only[List.set_cons_zero,List.set_cons_succ] at hVRn
  have hVZn:=(hVZ.grown hg4 (by simp;omega)).grown (grownBy_setCell w4 Rb 1 (.int .i64 x)) (by simp)
  have HRoN:=zN ((hRo.kept hg4 (fun k hk=>by injection hk with hk;omega)).kept (grownBy_setCell w4 Rb 1 (.int .i64 x)) (fun k hk=>by injection hk with hk;omega))
  have HToN:=zN ((hTo.kept hg4 (fun k hk=>by injection hk with hk;omega)).kept (grownBy_setCell w4 Rb 1 (.int .i64 x)) (fun k hk=>by injection hk with hk;omega))
  have hGn:w.grownBy (w4.setCell ⟨Rb,1,none⟩ (.int .i64 x)) (some g):=grw_set (hG.trans hg4) (.inr (by have:=HRB.out;omega))
  have hCn:=hC4.set1 hgn hbn 1 (.int .i64 x)
  obtain⟨⟨y0,y1,y2,y3,y4⟩,yf0,yf1,yf2,yf3,yf4⟩:=hVR4.five
  have HST:=zN (And.intro hVRn (And.intro hVZn (And.intro hGn hCn)))
  clear hVRn hVZn hGn hCn hVR4 hVR hVZ hG hC hg4 hC4 hRo hTo
  obtain⟨hVR,hVZ,hG,hC⟩:=HST.out
  obtain⟨⟨r0,r1,r2,r3,r4⟩,-⟩:=hVR.five
  obtain⟨⟨z0,z1,z2,z3,z4⟩,zf0,zf1,zf2,zf3,zf4⟩:=hVZ.five
  have hVZ4:=(((((hVZ.set 0 (.int .i64 f)).set 1 (.int .i64 x)).set 2 (.int .i64 a)).set 3 (.slice q1 X.length e1)).set 4 (.slice q2 T.length e2))
  simp only[List.set_cons_zero,List.set_cons_succ] at hVZ4
  obtain⟨⟨t0,t1,t2,t3,t4⟩,-⟩:=hVZ4.five
  have hset:(w4.setCell ⟨Rb,1,none⟩ (.int .i64 x)).grownBy ((((((w4.setCell ⟨Rb,1,none⟩ (.int .i64 x)).setCell ⟨Rb+1,0,none⟩ (.int .i64 f)).setCell ⟨Rb+1,1,none⟩ (.int .i64 x)).setCell ⟨Rb+1,2,none⟩ (.int .i64 a)).setCell ⟨Rb+1,3,none⟩ (.slice q1 X.length e1)).setCell ⟨Rb+1,4,none⟩ (.slice q2 T.length e2)) (some (Rb+1)):=(((((grownBy_setCell _ _ _ _).trans (grownBy_setCell _ _ _ _)).trans (grownBy_setCell _ _ _ _)).trans (grownBy_setCell _ _ _ _)).trans (grownBy_setCell _ _ _ _))
  have hbR2:base≤Rb+2:=by have:=HRB.out;omega
  have hRZ:=(HRoN.out.rof).grown hset (fun k hk=>by injection hk with hk;omega)
  have hTZ:=((HToN.out.taf.mono hA2)).grown hset (fun k hk=>by injection hk with hk;omega)
  have HGF:Hid (w.grownBy ((((((w4.setCell ⟨Rb,1,none⟩ (.int .i64 x)).setCell ⟨Rb+1,0,none⟩ (.int .i64 f)).setCell ⟨Rb+1,1,none⟩ (.int .i64 x)).setCell ⟨Rb+1,2,none⟩ (.int .i64 a)).setCell ⟨Rb+1,3,none⟩ (.slice q1 X.length e1)).setCell ⟨Rb+1,4,none⟩ (.slice q2 T.length e2)) (some g)):=zN (grw_set (grw_set (grw_set (grw_set (grw_set hG (.inr (by have:=HRB.out;omega))) (.inr (by have:=HRB.out;omega))) (.inr (by have:=HRB.out;omega))) (.inr (by have:=HRB.out;omega))) (.inr (by have:=HRB.out;omega)))
  have hSZ:∀ xr∈X,xr.1.sh.length≤xr.2.2∧ShOwn ((((((w4.setCell ⟨Rb,1,none⟩ (.int .i64 x)).setCell ⟨Rb+1,0,none⟩ (.int .i64 f)).setCell ⟨Rb+1,1,none⟩ (.int .i64 x)).setCell ⟨Rb+1,2,none⟩ (.int .i64 a)).setCell ⟨Rb+1,3,none⟩ (.slice q1 X.length e1)).setCell ⟨Rb+1,4,none⟩ (.slice q2 T.length e2)) base xr.2.1 xr.1.sh:=fun xr hxr=>⟨(HXS.out xr hxr).1,(HXS.out xr hxr).2.grown HGF.out (fun k hk=>by injection hk with hk;omega)⟩
  have HSO:=zN (sysOwn_of (f:=f) (s:=x) (a:=a) (hRZ.mono hbR2) (hTZ.mono hbR2) hSZ)
  have HCF:=zN (((((hC.set1 hgn1 hbn1 0 (.int .i64 f)).set1 hgn1 hbn1 1 (.int .i64 x)).set1 hgn1 hbn1 2 (.int .i64 a)).set1 hgn1 hbn1 3 (.slice q1 X.length e1)).set1 hgn1 hbn1 4 (.slice q2 T.length e2))
  have HT:=zN (And.intro t0 (And.intro t1 (And.intro t2 (And.intro t3 t4))))
  clear hVZ4 hVR hVZ hG hC t0 t1 t2 t3 t4 hRZ hTZ hSZ hset
  go_wp2
  obtain⟨t0,t1,t2,t3,t4⟩:=HT.out
  refine bodyPost_ret (v:=.agg #[.int .i64 f,.int .i64 x,.int .i64 a,.slice q1 X.length e1,.slice q2 T.length e2]) ?_ rfl ⟨_,_,rfl,HSO.out,by simp,by show T.length≤T.length+201;omega,fun r hr=>by obtain⟨x,hx,rfl⟩:=List.mem_map.1 hr;have:=HXB.out x hx;omega,HGF.out,j4,HCF.out⟩
  simp[results,Tryz.results11,go_sem,t0,t1,t2,t3,t4]
 ·go_wp2_with fail
  refine (int_any w3 g b L j3 hC).mono ?_
  rintro e w4 ⟨x,rfl,hx1,hx2,hg4,j4,hC4⟩
  have hVR4:=hVR.grown hg4 (by simp;omega)
  have hVRn:=hVR4.set 2 (.int .i64 x)
  simp only[List.set_cons_zero,List.set_cons_succ] at hVRn
  have hVZn:=(hVZ.grown hg4 (by simp;omega)).grown (grownBy_setCell w4 Rb 2 (.int .i64 x)) (by simp)
  have HRoN:=zN ((hRo.kept hg4 (fun k hk=>by injection hk with hk;omega)).kept (grownBy_setCell w4 Rb 2 (.int .i64 x)) (fun k hk=>by injection hk with hk;omega))
  have HToN:=zN ((hTo.kept hg4 (fun k hk=>by injection hk with hk;omega)).kept (grownBy_setCell w4 Rb 2 (.int .i64 x)) (fun k hk=>by injection hk with hk;omega))
  have hGn:w.grownBy (w4.setCell ⟨Rb,2,none⟩ (.int .i64 x)) (some g):=grw_set (hG.trans hg4) (.inr (by have:=HRB.out;omega))
  have hCn:=hC4.set1 hgn hbn 2 (.int .i64 x)
  obtain⟨⟨y0,y1,y2,y3,y4⟩,yf0,yf1,yf2,yf3,yf4⟩:=hVR4.five
  have HST:=zN (And.intro hVRn (And.intro hVZn (And.intro hGn hCn)))
  clear hVRn hVZn hGn hCn hVR4 hVR hVZ hG hC hg4 hC4 hRo hTo
  obtain⟨hVR,hVZ,hG,hC⟩:=HST.out
  obtain⟨⟨r0,r1,r2,r3,r4⟩,-⟩:=hVR.five
  obtain⟨⟨z0,z1,z2,z3,z4⟩,zf0,zf1,zf2,zf3,zf4⟩:=hVZ.five
  have hVZ4:=(((((hVZ.set 0 (.int .i64 f)).set 1 (.int .i64 s)).set 2 (.int .i64 x)).set 3 (.slice q1 X.length e1)).set 4 (.slice q2 T.length e2))
  simp only[List.set_cons_zero,List.set_cons_succ] at hVZ4
  obtain⟨⟨t0,t1,t2,t3,t4⟩,-⟩:=hVZ4.five
  have hset:(w4.setCell ⟨Rb,2,none⟩ (.int .i64 x)).grownBy ((((((w4.setCell ⟨Rb,2,none⟩ (.int .i64 x)).setCell ⟨Rb+1,0,none⟩ (.int .i64 f)).setCell ⟨Rb+1,1,none⟩ (.int .i64 s)).setCell ⟨Rb+1,2,none⟩ (.int .i64 x)).setCell ⟨Rb+1,3,none⟩ (.slice q1 X.length e1)).setCell ⟨Rb+1,4,none⟩ (.slice q2 T.length e2)) (some (Rb+1)):=(((((grownBy_setCell _ _ _ _).trans (grownBy_setCell _ _ _ _)).trans (grownBy_setCell _ _ _ _)).trans (grownBy_setCell _ _ _ _)).trans (grownBy_setCell _ _ _ _))
  have hbR2:base≤Rb+2:=by have:=HRB.out;omega
  have hRZ:=(HRoN.out.rof).grown hset (fun k hk=>by injection hk with hk;omega)
  have hTZ:=((HToN.out.taf.mono hA2)).grown hset (fun k hk=>by injection hk with hk;omega)
  have HGF:Hid (w.grownBy ((((((w4.setCell ⟨Rb,2,none⟩ (.int .i64 x)).setCell ⟨Rb+1,0,none⟩ (.int .i64 f)).setCell ⟨Rb+1,1,none⟩ (.int .i64 s)).setCell ⟨Rb+1,2,none⟩ (.int .i64 x)).setCell ⟨Rb+1,3,none⟩ (.slice q1 X.length e1)).setCell ⟨Rb+1,4,none⟩ (.slice q2 T.length e2)) (some g)):=zN (grw_set (grw_set (grw_set (grw_set (grw_set hG (.inr (by have:=HRB.out;omega))) (.inr (by have:=HRB.out;omega))) (.inr (by have:=HRB.out;omega))) (.inr (by have:=HRB.out;omega))) (.inr (by have:=HRB.out;omega)))
  have hSZ:∀ xr∈X,xr.1.sh.length≤xr.2.2∧ShOwn ((((((w4.setCell ⟨Rb,2,none⟩ (.int .i64 x)).setCell ⟨Rb+1,0,none⟩ (.int .i64 f)).setCell ⟨Rb+1,1,none⟩ (.int .i64 s)).setCell ⟨Rb+1,2,none⟩ (.int .i64 x)).setCell ⟨Rb+1,3,none⟩ (.slice q1 X.length e1)).setCell ⟨Rb+1,4,none⟩ (.slice q2 T.length e2)) base xr.2.1 xr.1.sh:=fun xr hxr=>⟨(HXS.out xr hxr).1,(HXS.out xr hxr).2.grown HGF.out (fun k hk=>by injection hk with hk;omega)⟩
  have HSO:=zN (sysOwn_of (f:=f) (s:=s) (a:=x) (hRZ.mono hbR2) (hTZ.mono hbR2) hSZ)
  have HCF:=zN (((((hC.set1 hgn1 hbn1 0 (.int .i64 f)).set1 hgn1 hbn1 1 (.int .i64 s)).set1 hgn1 hbn1 2 (.int .i64 x)).set1 hgn1 hbn1 3 (.slice q1 X.length e1)).set1 hgn1 hbn1 4 (.slice q2 T.length e2))
  have HT:=zN (And.intro t0 (And.intro t1 (And.intro t2 (And.intro t3 t4))))
  clear hVZ4 hVR hVZ hG hC t0 t1 t2 t3 t4 hRZ hTZ hSZ hset
  go_wp2
  obtain⟨t0,t1,t2,t3,t4⟩:=HT.out
  refine bodyPost_ret (v:=.agg #[.int .i64 f,.int .i64 s,.int .i64 x,.slice q1 X.length e1,.slice q2 T.length e2]) ?_ rfl ⟨_,_,rfl,HSO.out,by simp,by show T.length≤T.length+201;omega,fun r hr=>by obtain⟨x,hx,rfl⟩:=List.mem_map.1 hr;have:=HXB.out x hx;omega,HGF.out,j4,HCF.out⟩
  simp[results,Tryz.results11,go_sem,t0,t1,t2,t3,t4]
 ·obtain⟨⟨r0,r1,r2,r3,r4⟩,rf0,rf1,rf2,rf3,rf4⟩:=hVR.five
  have hw3:Rb+1 < w3.heap.size:=zM _ _ hVZ.five.1.1
  have hlow:∀ k,(Value.slice q2 T.length e2).ownBlock=some k→A1≤k∧k < w3.heap.size:=fun k hk=>World.ownsRow.lt hTo k hk
  go_wp2_with (at_builtin;refine Hid.out ?_)
  refine zN ?_
  refine RX.wpl_app2 (by rfl) elInt _ _ (by rfl) A1 _ _ _ (World.ownsRow.alloc hTo (.cells #[.int .i64 0] 3)) (by rfl) w3.heap.size _ 1 (by rfl) (heap_alloc_new _ _) (by rfl) (by simp[Value.oneCell']) (by have:=HL.out.2;omega) (by have:=HL.out.2;omega) (by have:=HA3.out;simp;omega) ?_
  intro v5 w5 hown5 hb5 hg5 hat5
  have hgA:w3.grownBy w5 (Value.slice q2 T.length e2).ownBlock:=(World.grownBy_alloc w3 _ _).trans hg5
  have hrow:∀ k,(Value.slice q2 T.length e2).ownBlock=some k→A1≤k:=fun k hk=>(hlow k hk).1
  have hTo5:RowV w5 A1 v5 (T ++ [0]):=RowV.snoc hown5
  have hVR5:=hVR.grown hgA (fun e=>by have:=hrow _ e.symm;omega)
  have hVZ5:=hVZ.grown hgA (fun e=>by have:=hrow _ e.symm;omega)
  have hG5:w.grownBy w5 (some g):=grw_own hG hgA (fun k hk=>by have:=hrow k hk;have:=HRB.out;omega)
  have hC5:=hC.own hgA (fun k hk=>⟨by have:=hrow k hk;omega,fun h0=>by have:=hrow k hk;have:=hbR h0;omega⟩)
  have hRo5:RoV w5 (Rb+2) (.slice q1 X.length e1) X:=World.ownsRow.kept hRo hgA (by
   cases e:(Value.slice q1 X.length e1).ownBlock with
   |none=>exact .inl rfl
   |some k=>exact .inr (fun hh=>by have:=HUP.out k e;have:=hrow k hh.symm;omega))
  obtain⟨q5,c5,rfl,hc5⟩:=own_slice hTo5
  obtain⟨T5,hT5⟩:∃ T5,T5=T ++ [0]:=⟨_,rfl⟩
  have hT5l:T5.length=T.length+1:=by rw[hT5];simp
  have HT5L:=zN hT5l
  have HTo5:Hid (TaF w5 A1 (.slice q5 (T.length+1) c5) T5):=zN (by rw[←hT5l,hT5];exact hTo5.taf)
  rw[show (T ++ [(0:Int)]).length=T.length+1 by simp]
  have hVRn:=hVR5.set 4 (.slice q5 (T.length+1) c5)
  simp only[List.set_cons_zero,List.set_cons_succ] at hVRn
  have hVZn:=hVZ5.grown (grownBy_setCell w5 Rb 4 (.slice q5 (T.length+1) c5)) (by simp)
  have HRoN:=zN (hRo5.kept (grownBy_setCell w5 Rb 4 (.slice q5 (T.length+1) c5)) (fun k hk=>by injection hk with hk;omega))
  have HToN:=zN (HTo5.out.grown (grownBy_setCell w5 Rb 4 (.slice q5 (T.length+1) c5)) (fun k hk=>by injection hk with hk;omega))
  have hGn:w.grownBy (w5.setCell ⟨Rb,4,none⟩ (.slice q5 (T.length+1) c5)) (some g):=grw_set hG5 (.inr (by have:=HRB.out;omega))
  have hCn:=hC5.set1 hgn hbn 4 (.slice q5 (T.length+1) c5)
  obtain⟨⟨y0,y1,y2,y3,y4⟩,yf0,yf1,yf2,yf3,yf4⟩:=hVR5.five
  have HST:=zN (And.intro hVRn (And.intro hVZn (And.intro hGn hCn)))
  clear hVRn hVZn hGn hCn hVR5 hVR hVZ hG hC hRo hTo hTo5 hown5 hb5 hg5 hat5 hgA hrow hlow hVZ5 hG5 hC5 hRo5 hT5l hT5 hc5
  obtain⟨hVR,hVZ,hG,hC⟩:=HST.out
  obtain⟨⟨x0,x1,x2,x3,x4⟩,-⟩:=hVR.five
  obtain⟨⟨z0,z1,z2,z3,z4⟩,zf0,zf1,zf2,zf3,zf4⟩:=hVZ.five
  have hVZ4:=(((((hVZ.set 0 (.int .i64 f)).set 1 (.int .i64 s)).set 2 (.int .i64 a)).set 3 (.slice q1 X.length e1)).set 4 (.slice q5 (T.length+1) c5))
  simp only[List.set_cons_zero,List.set_cons_succ] at hVZ4
  obtain⟨⟨t0,t1,t2,t3,t4⟩,-⟩:=hVZ4.five
  have hset:(w5.setCell ⟨Rb,4,none⟩ (.slice q5 (T.length+1) c5)).grownBy ((((((w5.setCell ⟨Rb,4,none⟩ (.slice q5 (T.length+1) c5)).setCell ⟨Rb+1,0,none⟩ (.int .i64 f)).setCell ⟨Rb+1,1,none⟩ (.int .i64 s)).setCell ⟨Rb+1,2,none⟩ (.int .i64 a)).setCell ⟨Rb+1,3,none⟩ (.slice q1 X.length e1)).setCell ⟨Rb+1,4,none⟩ (.slice q5 (T.length+1) c5)) (some (Rb+1)):=(((((grownBy_setCell _ _ _ _).trans (grownBy_setCell _ _ _ _)).trans (grownBy_setCell _ _ _ _)).trans (grownBy_setCell _ _ _ _)).trans (grownBy_setCell _ _ _ _))
  have hbR2:base≤Rb+2:=by have:=HRB.out;omega
  have hRZ:=(HRoN.out.rof).grown hset (fun k hk=>by injection hk with hk;omega)
  have hTZ:=((HToN.out.mono hA2)).grown hset (fun k hk=>by injection hk with hk;omega)
  have HGF:Hid (w.grownBy ((((((w5.setCell ⟨Rb,4,none⟩ (.slice q5 (T.length+1) c5)).setCell ⟨Rb+1,0,none⟩ (.int .i64 f)).setCell ⟨Rb+1,1,none⟩ (.int .i64 s)).setCell ⟨Rb+1,2,none⟩ (.int .i64 a)).setCell ⟨Rb+1,3,none⟩ (.slice q1 X.length e1)).setCell ⟨Rb+1,4,none⟩ (.slice q5 (T.length+1) c5)) (some g)):=zN (grw_set (grw_set (grw_set (grw_set (grw_set hG (.inr (by have:=HRB.out;omega))) (.inr (by have:=HRB.out;omega))) (.inr (by have:=HRB.out;omega))) (.inr (by have:=HRB.out;omega))) (.inr (by have:=HRB.out;omega)))
  have hSZ:∀ xr∈X,xr.1.sh.length≤xr.2.2∧ShOwn ((((((w5.setCell ⟨Rb,4,none⟩ (.slice q5 (T.length+1) c5)).setCell ⟨Rb+1,0,none⟩ (.int .i64 f)).setCell ⟨Rb+1,1,none⟩ (.int .i64 s)).setCell ⟨Rb+1,2,none⟩ (.int .i64 a)).setCell ⟨Rb+1,3,none⟩ (.slice q1 X.length e1)).setCell ⟨Rb+1,4,none⟩ (.slice q5 (T.length+1) c5)) base xr.2.1 xr.1.sh:=fun xr hxr=>⟨(HXS.out xr hxr).1,(HXS.out xr hxr).2.grown HGF.out (fun k hk=>by injection hk with hk;omega)⟩
  have HSO:=zN (sysOwn_of (f:=f) (s:=s) (a:=a) (hRZ.mono hbR2) (hTZ.mono hbR2) hSZ)
  have HCF:=zN (((((hC.set1 hgn1 hbn1 0 (.int .i64 f)).set1 hgn1 hbn1 1 (.int .i64 s)).set1 hgn1 hbn1 2 (.int .i64 a)).set1 hgn1 hbn1 3 (.slice q1 X.length e1)).set1 hgn1 hbn1 4 (.slice q5 (T.length+1) c5))
  have HT:=zN (And.intro t0 (And.intro t1 (And.intro t2 (And.intro t3 t4))))
  clear hVZ4 hVR hVZ hG hC t0 t1 t2 t3 t4 hRZ hTZ hSZ hset
  go_wp2
  obtain⟨t0,t1,t2,t3,t4⟩:=HT.out
  refine bodyPost_ret (v:=.agg #[.int .i64 f,.int .i64 s,.int .i64 a,.slice q1 X.length e1,.slice q5 (T.length+1) c5]) ?_ rfl ⟨_,_,rfl,HSO.out,by simp,by show T5.length≤T.length+201;have:=HT5L.out;omega,fun r hr=>by obtain⟨x,hx,rfl⟩:=List.mem_map.1 hr;have:=HXB.out x hx;omega,HGF.out,j3,HCF.out⟩
  simp[results,Tryz.results11,go_sem,t0,t1,t2,t3,t4]
 ·by_cases h0:0 < T.length
  ·have hd:decide ((T.length:Int) > 0)=true:=zDt (by omega)
   obtain⟨q3,e3,bt,e9,hc3,hp3,hx3⟩:=hTo.taf
   injection e9 with e9 _ e10
   subst e9
   clear e10
   obtain⟨rfl,hbt1,hbt2⟩:=hp3 h0
   obtain⟨⟨r0,r1,r2,r3,r4⟩,rf0,rf1,rf2,rf3,rf4⟩:=hVR.five
   go_wp2
   have HR4:=zN r4
   have HTX:=zN hx3
   have hn1:=HL.out.2
   have HSTART:=zN (QW.start hC)
   have hgW:g < w3.heap.size:=hC.lt
   have HALL:=zN (And.intro hVR (And.intro hVZ (And.intro hRo (And.intro hG hC))))
   have hbtg:bt≠g:=by omega
   clear hVR hVZ hRo hTo hG hC r0 r1 r2 r3 r4 rf0 rf1 rf2 rf3 rf4 hc3 hp3 hx3 hd
   obtain⟨n,hn⟩:∃ n,n=T.length:=⟨_,rfl⟩
   rw[←hn] at HR4 h0 hn1
   have HT0:Hid (∀ k,k < n→w3.cell? ⟨bt,k,none⟩=some (.int .i64 (T.getD k 0))∧w3.frozen? ⟨bt,k,none⟩=false):=zN (fun k hk=>by
    have h:=HTX.out k (by omega)
    rw[Nat.zero_add] at h
    rw[List.getD_eq_getElem?_getD,List.getElem?_eq_getElem (by omega)]
    exact h)
   have HN:=zN hn
   clear hn
   refine RX.regionI (QI w3 g b L Rb bt n e2 []) (by kernel_rfl) (by kernel_rfl) ?_ ?_ ?_
   ·exact⟨_,rfl,rfl,rfl,rfl,rfl,.inl ⟨rfl,HSTART.out,fun j _ h=>absurd h (by simp)⟩⟩
   ·refine⟨?_,?_,?_,?_,?_,?_,?_,?_,?_,?_,?_,?_,?_,?_,?_,?_,trivial⟩
    ·intro d a w hd hdep hI
     obtain⟨hw,a0,a3,hq⟩:=hI.live (i:=0) (by omega) hd
     go_wp2
     exact hI.put (j:=0) (by omega) hd rfl (KeepN.refl _ _) hw
    ·intro d a w hd hdep hI
     obtain⟨hw,a0,a3,hq⟩:=hI.live (i:=1) (by omega) hd
     have r:=hw.1.cell HR4.out (by simp;omega)
     have ea:a.tmps[71]?.getD undef=.pointer (some ⟨Rb,4,none⟩):=hq 0 71 rfl (by omega) (hdep ⟨0,.data⟩ (by simp) rfl)
     go_wp2
     exact hI.put (j:=1) (by omega) hd rfl (KeepN.refl _ _) hw
    ·intro d a w hd hdep hI
     obtain⟨hw,a0,a3,hq⟩:=hI.live (i:=2) (by omega) hd
     go_wp2
     exact hI.put (j:=2) (by omega) hd rfl (KeepN.refl _ _) hw
    ·intro d a w hd hdep hI
     obtain⟨hw,a0,a3,hq⟩:=hI.live (i:=3) (by omega) hd
     go_wp2
     exact hI.put (j:=3) (by omega) hd rfl (KeepN.refl _ _) hw
    ·intro d a w hd hdep hI
     obtain⟨hw,a0,a3,hq⟩:=hI.live (i:=4) (by omega) hd
     have r:=hw.1.cell HR4.out (by simp;omega)
     have ea:a.tmps[74]?.getD undef=.pointer (some ⟨Rb,4,none⟩):=hq 3 74 rfl (by omega) (hdep ⟨3,.data⟩ (by simp) rfl)
     go_wp2
     exact hI.put (j:=4) (by omega) hd rfl (KeepN.refl _ _) hw
    ·intro d a w hd hdep hI
     obtain⟨hw,a0,a3,hq⟩:=hI.live (i:=5) (by omega) hd
     have ea:a.tmps[75]?.getD undef=.slice (some ⟨bt,0,none⟩) n e2:=hq 4 75 rfl (by omega) (hdep ⟨4,.data⟩ (by simp) rfl)
     go_wp2
     exact hI.put (j:=5) (by omega) hd rfl (KeepN.refl _ _) hw
    ·intro d a w hd hdep hI
     obtain⟨hw,a0,a3,hq⟩:=hI.live (i:=6) (by omega) hd
     have ea:a.tmps[73]?.getD undef=.pointer (some ⟨g,0,none⟩):=hq 2 73 rfl (by omega) (hdep ⟨2,.data⟩ (by simp) rfl)
     have eb:a.tmps[76]?.getD undef=.int .i64 n:=hq 5 76 rfl (by omega) (hdep ⟨5,.data⟩ (by simp) rfl)
     go_wp2_with fail
     obtain⟨j,hC⟩:=hw.2
     refine (next_any _ g b L j n hC (by omega)).mono ?_
     rintro e w' ⟨r,rfl,hr,hG,hC2⟩
     exact hI.put (j:=6) (by omega) hd ⟨r,rfl,by omega⟩ (KeepN.grown hG hgW) (hw.turn hG hC2)
    ·intro d a w hd hdep hI
     obtain⟨hw,a0,a3,hq⟩:=hI.live (i:=7) (by omega) hd
     go_wp2
     exact hI.put (j:=7) (by omega) hd rfl (KeepN.refl _ _) hw
    ·intro d a w hd hdep hI
     obtain⟨hw,a0,a3,hq⟩:=hI.live (i:=8) (by omega) hd
     have ea:a.tmps[78]?.getD undef=.pointer (some ⟨g,0,none⟩):=hq 7 78 rfl (by omega) (hdep ⟨7,.data⟩ (by simp) rfl)
     go_wp2_with fail
     obtain⟨j,hC⟩:=hw.2
     refine (int_any _ g b L j hC).mono ?_
     rintro e w' ⟨r,rfl,hr1,hr2,hG,hC2⟩
     exact hI.put (j:=8) (by omega) hd ⟨r,rfl⟩ (KeepN.grown hG hgW) (hw.turn hG hC2)
    ·intro d a w hd hdep hI
     obtain⟨hw,a0,a3,hq⟩:=hI.live (i:=9) (by omega) hd
     obtain⟨i,ea⟩:∃ i:Int,a.tmps[79]?.getD undef=.int .i64 i:=hq 8 79 rfl (by omega) (hdep ⟨8,.data⟩ (by simp) rfl)
     go_wp2
     have hs:=hw.1.size
     refine hI.put (j:=9) (by omega) hd ⟨w.heap.size,hs,rfl,fun k hk=>?_⟩ (KeepN.alloc _) (hw.alloc _)
     match k,hk with
     |0,_=>exact⟨4294967297,by simp[zJ]⟩
     |1,_=>exact⟨-4294967297,by simp[zJ]⟩
     |2,_=>exact⟨4294967296,by simp[zJ]⟩
     |3,_=>exact⟨i,by simp[zJ]⟩
     |k+4,hk=>omega
    ·intro d a w hd hdep hI
     obtain⟨hw,a0,a3,hq⟩:=hI.live (i:=10) (by omega) hd
     go_wp2
     exact hI.put (j:=10) (by omega) hd rfl (KeepN.refl _ _) hw
    ·intro d a w hd hdep hI
     obtain⟨hw,a0,a3,hq⟩:=hI.live (i:=11) (by omega) hd
     have ea:a.tmps[81]?.getD undef=.pointer (some ⟨g,0,none⟩):=hq 10 81 rfl (by omega) (hdep ⟨10,.data⟩ (by simp) rfl)
     go_wp2_with fail
     obtain⟨j,hC⟩:=hw.2
     refine (next_any _ g b L j 4 hC (by omega)).mono ?_
     rintro e w' ⟨r,rfl,hr,hG,hC2⟩
     exact hI.put (j:=11) (by omega) hd ⟨r,rfl,by omega⟩ (KeepN.grown hG hgW) (hw.turn hG hC2)
    ·intro d a w hd hdep hI
     obtain⟨hw,a0,a3,hq⟩:=hI.live (i:=12) (by omega) hd
     obtain⟨A,hA,ea,hc⟩:∃ A,w3.heap.size≤A∧a.tmps[80]?.getD undef=.slice (some ⟨A,0,none⟩) 4 4∧∀ k,k < 4→∃ v:Int,w.cell? ⟨A,k,none⟩=some (.int .i64 v):=hq 9 80 rfl (by omega) (hdep ⟨9,.data⟩ (by simp) rfl)
     obtain⟨r,eb,hr⟩:∃ r:Nat,a.tmps[82]?.getD undef=.int .i64 r∧r < 4:=hq 11 82 rfl (by omega) (hdep ⟨11,.data⟩ (by simp) rfl)
     obtain⟨v,hv⟩:=hc r hr
     have hr0:(0:Int)≤(r:Int):=by omega
     have hr4:(r:Int) < 4:=by omega
     clear hc
     go_wp2
     exact hI.put (j:=12) (by omega) hd ⟨A,r,hA,rfl,v,hv⟩ (KeepN.refl _ _) hw
    ·intro d a w hd hdep hI
     obtain⟨hw,a0,a3,hq⟩:=hI.live (i:=13) (by omega) hd
     obtain⟨A,k,hA,ea,v,hc⟩:∃ A k,w3.heap.size≤A∧a.tmps[83]?.getD undef=.pointer (some ⟨A,k,none⟩)∧∃ v:Int,w.cell? ⟨A,k,none⟩=some (.int .i64 v):=hq 12 83 rfl (by omega) (hdep ⟨12,.data⟩ (by simp) rfl)
     go_wp2
     exact hI.put (j:=13) (by omega) hd ⟨v,rfl⟩ (KeepN.refl _ _) hw
    ·intro d a w hd hdep hI
     obtain⟨hw,a0,a3,hq⟩:=hI.live (i:=14) (by omega) hd
     have ea:a.tmps[72]?.getD undef=.slice (some ⟨bt,0,none⟩) n e2:=hq 1 72 rfl (by omega) (hdep ⟨1,.data⟩ (by simp) rfl)
     obtain⟨r,eb,hr⟩:∃ r:Nat,a.tmps[77]?.getD undef=.int .i64 r∧r < n:=hq 6 77 rfl (by omega) (hdep ⟨6,.data⟩ (by simp) rfl)
     have hr0:(0:Int)≤(r:Int):=by omega
     have hrn:(r:Int) < (n:Int):=by omega
     go_wp2
     exact hI.put (j:=14) (by omega) hd ⟨r,rfl,hr⟩ (KeepN.refl _ _) hw
    ·intro d a w hd hdep hI
     obtain⟨hw,a0,a3,hq⟩:=hI.live (i:=15) (by omega) hd
     obtain⟨v,ea⟩:∃ v:Int,a.tmps[84]?.getD undef=.int .i64 v:=hq 13 84 rfl (by omega) (hdep ⟨13,.data⟩ (by simp) rfl)
     obtain⟨k,eb,hk⟩:∃ k:Nat,a.tmps[85]?.getD undef=.pointer (some ⟨bt,k,none⟩)∧k < n:=hq 14 85 rfl (by omega) (hdep ⟨14,.data⟩ (by simp) rfl)
     have hc:=hw.1.cell (HT0.out k hk).1 (by simp;omega)
     have hz:w.frozen? ⟨bt,k,none⟩=false:=(zFb (hw.1.block bt hbt2 (by simp;omega))).trans (HT0.out k hk).2
     go_wp2
     have hall:∀ j,j < 15→d j=true:=by
      intro j hj
      have:j=0∨j=1∨j=2∨j=3∨j=4∨j=5∨j=6∨j=7∨j=8∨j=9∨j=10∨j=11∨j=12∨j=13∨j=14:=by omega
      rcases this with rfl|rfl|rfl|rfl|rfl|rfl|rfl|rfl|rfl|rfl|rfl|rfl|rfl|rfl|rfl
      iterate 14 exact hdep ⟨_,.phase⟩ (by simp) rfl
      exact hdep ⟨14,.data⟩ (by simp) rfl
     exact hI.store hall hw hk v
   ·intro d a' w' hall hI
    obtain⟨xs,hl,rfl,x0,x3,x4,⟨h15,_⟩|⟨_,_,w4,k,v,hk,⟨hg4,j4,hC4⟩,rfl⟩⟩:=hI
    ·rw[hall 15 (by simp)] at h15;cases h15
    have ex3:xs[3]?=some (.pointer (some ⟨Rb,0,none⟩)):=by
     rw[List.getD_eq_getElem?_getD,List.getElem?_eq_getElem (by omega)] at x3
     rw[List.getElem?_eq_getElem (by omega)];exact congrArg some x3
    have ex4:xs[4]?=some (.pointer (some ⟨Rb+1,0,none⟩)):=by
     rw[List.getD_eq_getElem?_getD,List.getElem?_eq_getElem (by omega)] at x4
     rw[List.getElem?_eq_getElem (by omega)];exact congrArg some x4
    obtain⟨u8,e108⟩:∃ u,xs[108]?=some u:=⟨_,List.getElem?_eq_getElem (by omega)⟩
    have h108:108 < xs.length:=by omega
    have hkT:k < T.length:=by have:=HN.out;omega
    have hset1:w4.grownBy (w4.setCell ⟨bt,k,none⟩ (.int .i64 v)) (some bt):=grownBy_setCell _ _ _ _
    obtain⟨oVR,oVZ,oRo,oG,oC⟩:=HALL.out
    have hx4:IntsAt w4 bt 0 T:=fun k hk=>IntsAt.block HTX.out (hg4.block bt hbt2 (by simp;omega)) k hk
    have HTF:Hid (TaF (w4.setCell ⟨bt,k,none⟩ (.int .i64 v)) A1 (.slice (some ⟨bt,0,none⟩) T.length e2) (T.set k v)):=zN ⟨_,e2,bt,by rw[List.length_set],by rw[List.length_set];exact he2,fun _=>⟨rfl,hbt1,by have:=hg4.size;rw[World.size_setCell];omega⟩,hx4.put hkT v⟩
    have hVR:=(oVR.grown hg4 (by simp;omega)).grown hset1 (by simp;omega)
    have hVZ:=(oVZ.grown hg4 (by simp;omega)).grown hset1 (by simp;omega)
    have HRoN:Hid (RoV (w4.setCell ⟨bt,k,none⟩ (.int .i64 v)) (Rb+2) (.slice q1 X.length e1) X):=zN (World.ownsRow.kept (oRo.kept hg4 (fun k hk=>by injection hk with hk;omega)) hset1 (by
     cases e:(Value.slice q1 X.length e1).ownBlock with
     |none=>exact .inl rfl
     |some k=>exact .inr (fun hh=>by injection hh with hh;have:=HUP.out k e;omega)))
    have hG:w.grownBy (w4.setCell ⟨bt,k,none⟩ (.int .i64 v)) (some g):=grw_own (oG.trans hg4) hset1 (fun k hk=>by injection hk with hk;have:=HRB.out;omega)
    have hC:=hC4.own hset1 (fun k hk=>by injection hk with hk;exact⟨by omega,fun h0=>by have:=hbR h0;omega⟩)
    clear oVR oVZ oRo oG oC hx4 hset1 hg4 hC4 x0 x3 x4 HALL HTX HT0 HR4 HSTART hl
    obtain⟨⟨r0,r1,r2,r3,r4⟩,-⟩:=hVR.five
    obtain⟨⟨z0,z1,z2,z3,z4⟩,zf0,zf1,zf2,zf3,zf4⟩:=hVZ.five
    have hVZ4:=(((((hVZ.set 0 (.int .i64 f)).set 1 (.int .i64 s)).set 2 (.int .i64 a)).set 3 (.slice q1 X.length e1)).set 4 (.slice (some ⟨bt,0,none⟩) T.length e2))
    simp only[List.set_cons_zero,List.set_cons_succ] at hVZ4
    obtain⟨⟨t0,t1,t2,t3,t4⟩,-⟩:=hVZ4.five
    have hset:(w4.setCell ⟨bt,k,none⟩ (.int .i64 v)).grownBy ((((((w4.setCell ⟨bt,k,none⟩ (.int .i64 v)).setCell ⟨Rb+1,0,none⟩ (.int .i64 f)).setCell ⟨Rb+1,1,none⟩ (.int .i64 s)).setCell ⟨Rb+1,2,none⟩ (.int .i64 a)).setCell ⟨Rb+1,3,none⟩ (.slice q1 X.length e1)).setCell ⟨Rb+1,4,none⟩ (.slice (some ⟨bt,0,none⟩) T.length e2)) (some (Rb+1)):=(((((grownBy_setCell _ _ _ _).trans (grownBy_setCell _ _ _ _)).trans (grownBy_setCell _ _ _ _)).trans (grownBy_setCell _ _ _ _)).trans (grownBy_setCell _ _ _ _))
    have hbR2:base≤Rb+2:=by have:=HRB.out;omega
    have hRZ:=(HRoN.out.rof).grown hset (fun k hk=>by injection hk with hk;omega)
    have hTZ:=((HTF.out.mono hA2)).grown hset (fun k hk=>by injection hk with hk;omega)
    have HGF:Hid (w.grownBy ((((((w4.setCell ⟨bt,k,none⟩ (.int .i64 v)).setCell ⟨Rb+1,0,none⟩ (.int .i64 f)).setCell ⟨Rb+1,1,none⟩ (.int .i64 s)).setCell ⟨Rb+1,2,none⟩ (.int .i64 a)).setCell ⟨Rb+1,3,none⟩ (.slice q1 X.length e1)).setCell ⟨Rb+1,4,none⟩ (.slice (some ⟨bt,0,none⟩) T.length e2)) (some g)):=zN (grw_set (grw_set (grw_set (grw_set (grw_set hG (.inr (by have:=HRB.out;omega))) (.inr (by have:=HRB.out;omega))) (.inr (by have:=HRB.out;omega))) (.inr (by have:=HRB.out;omega))) (.inr (by have:=HRB.out;omega)))
    have hSZ:∀ xr∈X,xr.1.sh.length≤xr.2.2∧ShOwn ((((((w4.setCell ⟨bt,k,none⟩ (.int .i64 v)).setCell ⟨Rb+1,0,none⟩ (.int .i64 f)).setCell ⟨Rb+1,1,none⟩ (.int .i64 s)).setCell ⟨Rb+1,2,none⟩ (.int .i64 a)).setCell ⟨Rb+1,3,none⟩ (.slice q1 X.length e1)).setCell ⟨Rb+1,4,none⟩ (.slice (some ⟨bt,0,none⟩) T.length e2)) base xr.2.1 xr.1.sh:=fun xr hxr=>⟨(HXS.out xr hxr).1,(HXS.out xr hxr).2.grown HGF.out (fun k hk=>by injection hk with hk;omega)⟩
    have HSO:=zN (sysOwn_of (f:=f) (s:=s) (a:=a) (hRZ.mono hbR2) (hTZ.mono hbR2) hSZ)
    have HCF:=zN (((((hC.set1 hgn1 hbn1 0 (.int .i64 f)).set1 hgn1 hbn1 1 (.int .i64 s)).set1 hgn1 hbn1 2 (.int .i64 a)).set1 hgn1 hbn1 3 (.slice q1 X.length e1)).set1 hgn1 hbn1 4 (.slice (some ⟨bt,0,none⟩) T.length e2))
    have HT:=zN (And.intro t0 (And.intro t1 (And.intro t2 (And.intro t3 t4))))
    clear hVZ4 hVR hVZ hG hC t0 t1 t2 t3 t4 hRZ hTZ hSZ hset
    go_wp2
    obtain⟨t0,t1,t2,t3,t4⟩:=HT.out
    refine bodyPost_ret (v:=.agg #[.int .i64 f,.int .i64 s,.int .i64 a,.slice q1 X.length e1,.slice (some ⟨bt,0,none⟩) T.length e2]) ?_ rfl ⟨_,_,rfl,HSO.out,by simp,by show (T.set k v).length≤T.length+201;rw[List.length_set];omega,fun r hr=>by obtain⟨x,hx,rfl⟩:=List.mem_map.1 hr;have:=HXB.out x hx;omega,HGF.out,j4,HCF.out⟩
    simp[results,Tryz.results11,go_sem,ex4,t0,t1,t2,t3,t4]
  ·have hd:decide ((T.length:Int) > 0)=false:=zDf (by omega)
   obtain⟨⟨r0,r1,r2,r3,r4⟩,-⟩:=hVR.five
   obtain⟨⟨z0,z1,z2,z3,z4⟩,zf0,zf1,zf2,zf3,zf4⟩:=hVZ.five
   have hVZ4:=(((((hVZ.set 0 (.int .i64 f)).set 1 (.int .i64 s)).set 2 (.int .i64 a)).set 3 (.slice q1 X.length e1)).set 4 (.slice q2 T.length e2))
   simp only[List.set_cons_zero,List.set_cons_succ] at hVZ4
   obtain⟨⟨t0,t1,t2,t3,t4⟩,-⟩:=hVZ4.five
   have hset:w3.grownBy (((((w3.setCell ⟨Rb+1,0,none⟩ (.int .i64 f)).setCell ⟨Rb+1,1,none⟩ (.int .i64 s)).setCell ⟨Rb+1,2,none⟩ (.int .i64 a)).setCell ⟨Rb+1,3,none⟩ (.slice q1 X.length e1)).setCell ⟨Rb+1,4,none⟩ (.slice q2 T.length e2)) (some (Rb+1)):=(((((grownBy_setCell _ _ _ _).trans (grownBy_setCell _ _ _ _)).trans (grownBy_setCell _ _ _ _)).trans (grownBy_setCell _ _ _ _)).trans (grownBy_setCell _ _ _ _))
   have hbR2:base≤Rb+2:=by have:=HRB.out;omega
   have hRZ:=(hRo.rof).grown hset (fun k hk=>by injection hk with hk;omega)
   have hTZ:=((hTo.taf.mono hA2)).grown hset (fun k hk=>by injection hk with hk;omega)
   have HGF:Hid (w.grownBy (((((w3.setCell ⟨Rb+1,0,none⟩ (.int .i64 f)).setCell ⟨Rb+1,1,none⟩ (.int .i64 s)).setCell ⟨Rb+1,2,none⟩ (.int .i64 a)).setCell ⟨Rb+1,3,none⟩ (.slice q1 X.length e1)).setCell ⟨Rb+1,4,none⟩ (.slice q2 T.length e2)) (some g)):=zN (grw_set (grw_set (grw_set (grw_set (grw_set hG (.inr (by have:=HRB.out;omega))) (.inr (by have:=HRB.out;omega))) (.inr (by have:=HRB.out;omega))) (.inr (by have:=HRB.out;omega))) (.inr (by have:=HRB.out;omega)))
   have hSZ:∀ xr∈X,xr.1.sh.length≤xr.2.2∧ShOwn (((((w3.setCell ⟨Rb+1,0,none⟩ (.int .i64 f)).setCell ⟨Rb+1,1,none⟩ (.int .i64 s)).setCell ⟨Rb+1,2,none⟩ (.int .i64 a)).setCell ⟨Rb+1,3,none⟩ (.slice q1 X.length e1)).setCell ⟨Rb+1,4,none⟩ (.slice q2 T.length e2)) base xr.2.1 xr.1.sh:=fun xr hxr=>⟨(HXS.out xr hxr).1,(HXS.out xr hxr).2.grown HGF.out (fun k hk=>by injection hk with hk;omega)⟩
   have HSO:=zN (sysOwn_of (f:=f) (s:=s) (a:=a) (hRZ.mono hbR2) (hTZ.mono hbR2) hSZ)
   have HCF:=zN (((((hC.set1 hgn1 hbn1 0 (.int .i64 f)).set1 hgn1 hbn1 1 (.int .i64 s)).set1 hgn1 hbn1 2 (.int .i64 a)).set1 hgn1 hbn1 3 (.slice q1 X.length e1)).set1 hgn1 hbn1 4 (.slice q2 T.length e2))
   have HT:=zN (And.intro t0 (And.intro t1 (And.intro t2 (And.intro t3 t4))))
   clear hVZ4 hVR hVZ hG hC t0 t1 t2 t3 t4 hRZ hTZ hSZ hset
   go_wp2
   obtain⟨t0,t1,t2,t3,t4⟩:=HT.out
   refine bodyPost_ret (v:=.agg #[.int .i64 f,.int .i64 s,.int .i64 a,.slice q1 X.length e1,.slice q2 T.length e2]) ?_ rfl ⟨_,_,rfl,HSO.out,by simp,by show T.length≤T.length+201;omega,fun r hr=>by obtain⟨x,hx,rfl⟩:=List.mem_map.1 hr;have:=HXB.out x hx;omega,HGF.out,j3,HCF.out⟩
   simp[results,Tryz.results11,go_sem,t0,t1,t2,t3,t4]
 ·by_cases h0:0 < X.length
  ·have hd:decide ((X.length:Int) > 0)=true:=zDt (by omega)
   obtain⟨q3,e3,bq,e9,hc3,hp3,hx3⟩:=hRo.rof
   injection e9 with e9 _ e10
   subst e9
   clear e10
   obtain⟨rfl,hbq1,hbq2⟩:=hp3 h0
   have hfz:∀ j,w3.frozen? ⟨bq,j,none⟩=false:=fun j=>World.ownsRow.frozenAt hRo j
   have hbqA:bq < A1:=HUP.out bq rfl
   clear hp3 hc3
   obtain⟨⟨r0,r1,r2,r3,r4⟩,rf0,rf1,rf2,rf3,rf4⟩:=hVR.five
   go_wp2_with fail
   refine (next_any _ g b L j3 X.length hC (by have:=HL.out.1;omega)).mono ?_
   rintro e w4 ⟨ix,rfl,hix,hg4,j4,hC4⟩
   have hixn:ix < X.length:=by omega
   have hVR4:=hVR.grown hg4 (by simp;omega)
   have hVZ4:=hVZ.grown hg4 (by simp;omega)
   have hx4:RosAt w4 bq X:=RosAt.cellsOf hx3 (fun o v e=>hg4.cell e (by simp;omega))
   have hT4:RowV w4 A1 (.slice q2 T.length e2) T:=hTo.kept hg4 (fun k hk=>by injection hk with hk;omega)
   have hfz4:∀ j,w4.frozen? ⟨bq,j,none⟩=false:=fun j=>(zFb (hg4.block bq hbq2 (by simp;omega))).trans (hfz j)
   have hbq4:bq < w4.heap.size:=by have:=hg4.size;omega
   have hG4:=hG.trans hg4
   have hA34:A1≤w4.heap.size:=by have:=HA3.out;have:=hg4.size;omega
   clear hfz hx3 hVR hVZ hC hG hRo hTo r0 r1 r2 r3 r4 rf0 rf1 rf2 rf3 rf4 hix hg4
   have hc0:=hx4 ix hixn 0 (by omega)
   have hc1:=hx4 ix hixn 1 (by omega)
   have hc2:=hx4 ix hixn 2 (by omega)
   have hc3:=hx4 ix hixn 3 (by omega)
   simp only[encR,Nat.add_zero,List.getElem?_cons_zero,List.getElem?_cons_succ] at hc0 hc1 hc2 hc3
   have hso:=HXS.out X[ix] (List.getElem_mem _)
   have hsb:=HXB.out X[ix] (List.getElem_mem _)
   obtain⟨xo,hxo⟩:∃ xo,xo=X[ix]:=⟨_,rfl⟩
   rw[←hxo] at hc0 hc1 hc2 hc3 hso hsb
   obtain⟨ro,qo,co⟩:=xo
   dsimp only at hc0 hc1 hc2 hc3 hso hsb
   have hso4:=hso.2.grown hG4 (fun k hk=>by injection hk with hk;omega)
   have HSP:Hid (∀ w',Below w4.heap.size w4 w'→CodesAt w' g b L j4→Calls Tryz.prog 54 #[.pointer (some ⟨g,0,none⟩),.agg #[.slice qo ro.sh.length co,.int .i64 ro.value,.int .i64 ro.weight,.int .i64 ro.report]] w' fun e w''=>∃ r' q' cap',e=.returned (rwv r' q' cap')∧r'.sh.length≤cap'∧r'.sh.length≤2*ro.sh.length∧ShOwn w'' w'.heap.size q' r'.sh∧w'.grownBy w'' (some g)∧∃ j,CodesAt w'' g b L j):=zN (fun w' hb9 hc9=>spoilrow_any w' g b L j4 hc9 ro qo co base (hso4.below hb9) hso.1 (by omega))
   have hrn:Hid (∀ (r':Rw) (q':Option Addr) (c':Nat),rwv r' q' c'=.agg #[.slice q' r'.sh.length c',.int .i64 r'.value,.int .i64 r'.weight,.int .i64 r'.report]):=zN (fun _ _ _=>rfl)
   have HSB2:=zN hsb
   obtain⟨⟨r0,r1,r2,r3,r4⟩,rf0,rf1,rf2,rf3,rf4⟩:=hVR4.five
   have hix0:(0:Int)≤(ix:Int):=by omega
   have hixI:(ix:Int) < (X.length:Int):=by omega
   have HX4:=zN hx4
   have HVRZ:=zN (And.intro hVR4 (And.intro hVZ4 (And.intro hT4 hG4)))
   have HFZ:=zN hfz4
   clear hxo hso hso4 hsb hx4 hVR4 hVZ4 hT4 hG4 hfz4
   go_wp2
   refine RY.region RX.fN (fun w'=>w'.cell? ⟨Rb,3,none⟩=some (.slice (some ⟨bq,0,none⟩) X.length e1)∧w'.cell? ⟨bq,ix*4,none⟩=some (.slice qo ro.sh.length co)∧w'.cell? ⟨bq,ix*4+1,none⟩=some (.int .i64 ro.value)∧w'.cell? ⟨bq,ix*4+2,none⟩=some (.int .i64 ro.weight)∧w'.cell? ⟨bq,ix*4+3,none⟩=some (.int .i64 ro.report)) (by kernel_rfl) (by kernel_rfl) (⟨r3,hc0,hc1,hc2,hc3⟩) (fun OPS HO QR hQR=>?_)
   repeat (refine zeY (fun R hR=>?_);(first|refine zaY (by first|rfl|(rw[HO.out];rfl)) (by simp only[zA,zB,zC,zD];rfl) ?_|refine zbY (by first|rfl|(rw[HO.out];rfl)) rfl (by first|exact .inl rfl|exact .inr rfl) (by simp only[zE,zF,zG,zH];rfl) (by simp only[zA,zB,zC,zD];rfl) ?_|refine zcY (by first|rfl|(rw[HO.out];rfl)) rfl rfl (by simp only[zE,zF,zG,zH];rfl) (by simp only[zA,zB,zC,zD];rfl) ?_|(refine zdY (by first|rfl|(rw[HO.out];rfl)) rfl rfl rfl ?_;apply zEx;apply zEx;refine⟨fun w' hS K hK=>?_,?_,?_⟩;(focus (obtain⟨hS1,hS2,hS3,hS4,hS5⟩:=hS;go_wp2;exact hK _ _ (by simp only[zl,zG,zH];first|exact zf (by omega)|exact zg (by omega)|exact zh (by omega)|exact zi (by omega)|exact zj (by omega)|exact zk (by omega)|exact RX.bneB _|rfl) rfl));(focus (simp only[zA,zB,zC,zD];rfl))));refine hR _ _ ?_;clear hR R)
   refine zeY (fun R hR=>?_)
   refine zgY (by first|rfl|(rw[HO.out];rfl)) rfl (fun K hK=>?_)
   go_wp2_with fail
   refine (HSP.out w4.drew (by repeat (first|(with_reducible first|assumption|exact zBr _ _|refine zBs ?_ (by first|omega|(simp<;>omega)) _|refine zBa ?_ (by first|omega|(simp<;>omega)) _|apply zBd)|assumption)) (hC4.below (by repeat (first|(with_reducible first|assumption|exact zBr _ _|refine zBs ?_ (by first|omega|(simp<;>omega)) _|refine zBa ?_ (by first|omega|(simp<;>omega)) _|apply zBd)|assumption)))).mono ?_
   rintro e w5 ⟨rn,qn,cn,rfl,hcn,hln,hsn,hg5,j5,hC5⟩
   rw[hrn.out]
   replace hg5:w4.grownBy w5 (some g):=⟨hg5.os,hg5.tape,hg5.output,hg5.size,hg5.block⟩
   have x3:=hg5.cell r3 (by simp;omega)
   have k0:=hg5.cell hc0 (by simp;omega)
   have k1:=hg5.cell hc1 (by simp;omega)
   have k2:=hg5.cell hc2 (by simp;omega)
   have k3:=hg5.cell hc3 (by simp;omega)
   have kf:∀ j,w5.frozen? ⟨bq,j,none⟩=false:=fun j=>(zFb (hg5.block bq hbq4 (by simp;omega))).trans (HFZ.out j)
   have kf0:=kf (ix*4)
   have kf1:=kf (ix*4+1)
   have kf2:=kf (ix*4+2)
   have kf3:=kf (ix*4+3)
   have hx5:RosAt w5 bq X:=RosAt.cellsOf HX4.out (fun o v e=>hg5.cell e (by simp;omega))
   have hxp:=hx5.put hixn (rn,qn,cn)
   dsimp only at hxp
   have hw45:w4.heap.size≤w5.heap.size:=hg5.size
   have hset4:w5.grownBy ((((w5.setCell ⟨bq,ix*4,none⟩ (.slice qn rn.sh.length cn)).setCell ⟨bq,ix*4+1,none⟩ (.int .i64 rn.value)).setCell ⟨bq,ix*4+2,none⟩ (.int .i64 rn.weight)).setCell ⟨bq,ix*4+3,none⟩ (.int .i64 rn.report)) (some bq):=(((grownBy_setCell _ _ _ _).trans (grownBy_setCell _ _ _ _)).trans (grownBy_setCell _ _ _ _)).trans (grownBy_setCell _ _ _ _)
   have hVRn:=(HVRZ.out.1.grown hg5 (by simp;omega)).grown hset4 (by simp;omega)
   have hVZn:=(HVRZ.out.2.1.grown hg5 (by simp;omega)).grown hset4 (by simp;omega)
   have HTn:=zN ((HVRZ.out.2.2.1.kept hg5 (fun k hk=>by injection hk with hk;omega)).kept hset4 (fun k hk=>by injection hk with hk;omega))
   have hGn:w.grownBy ((((w5.setCell ⟨bq,ix*4,none⟩ (.slice qn rn.sh.length cn)).setCell ⟨bq,ix*4+1,none⟩ (.int .i64 rn.value)).setCell ⟨bq,ix*4+2,none⟩ (.int .i64 rn.weight)).setCell ⟨bq,ix*4+3,none⟩ (.int .i64 rn.report)) (some g):=grw_own (HVRZ.out.2.2.2.trans hg5) hset4 (fun k hk=>by injection hk with hk;have:=HRB.out;omega)
   have hCn:=hC5.own hset4 (fun k hk=>by injection hk with hk;exact⟨by omega,fun h0=>by have:=hbR h0;omega⟩)
   have HSN:=zN (And.intro hcn (hsn.grown hset4 (fun k hk=>by injection hk with hk;show k < w4.heap.size;omega)))
   have HRF:Hid (RoF ((((w5.setCell ⟨bq,ix*4,none⟩ (.slice qn rn.sh.length cn)).setCell ⟨bq,ix*4+1,none⟩ (.int .i64 rn.value)).setCell ⟨bq,ix*4+2,none⟩ (.int .i64 rn.weight)).setCell ⟨bq,ix*4+3,none⟩ (.int .i64 rn.report)) (Rb+2) (.slice (some ⟨bq,0,none⟩) X.length e1) (X.set ix (rn,qn,cn))):=zN ⟨_,e1,bq,by rw[List.length_set],by rw[List.length_set];exact he1,fun _=>⟨rfl,hbq1,by have:=hset4.size;omega⟩,hxp⟩
   have HLN:Hid (rn.sh.length≤2*B):=zN (by have:=HSB2.out;omega)
   have HST:=zN (And.intro hVRn (And.intro hVZn (And.intro hGn hCn)))
   have HW4S:Hid (Rb+1 < w4.heap.size):=zN (by omega)
   have HW4B:Hid (base≤w4.heap.size):=zN (by have:=HRB.out;omega)
   clear hVRn hVZn hGn hCn hx5 hxp hset4 hg5 hC5 hcn hln hsn hc0 hc1 hc2 hc3 r0 r1 r2 r3 r4 rf0 rf1 rf2 rf3 rf4 kf hw45 hC4
   refine hK _ _ ⟨.inr (⟨x3,k0,k1,k2,k3⟩),hR _ _ ?_⟩;clear hK K hR R
   repeat (refine zeY (fun R hR=>?_);(first|refine zaY (by first|rfl|(rw[HO.out];rfl)) (by simp only[zA,zB,zC,zD];rfl) ?_|refine zbY (by first|rfl|(rw[HO.out];rfl)) rfl (by first|exact .inl rfl|exact .inr rfl) (by simp only[zE,zF,zG,zH];rfl) (by simp only[zA,zB,zC,zD];rfl) ?_|refine zcY (by first|rfl|(rw[HO.out];rfl)) rfl rfl (by simp only[zE,zF,zG,zH];rfl) (by simp only[zA,zB,zC,zD];rfl) ?_|(refine zdY (by first|rfl|(rw[HO.out];rfl)) rfl rfl rfl ?_;apply zEx;apply zEx;refine⟨fun w' hS K hK=>?_,?_,?_⟩;(focus (obtain⟨hS1,hS2,hS3,hS4,hS5⟩:=hS;simp[Oper.wp,execOp,go_sem,hix0,hixI];exact hK _ _ (by simp only[zl,zG,zH];first|exact zf (by omega)|exact zg (by omega)|exact zh (by omega)|exact zi (by omega)|exact zj (by omega)|exact zk (by omega)|exact RX.bneB _|rfl) rfl));(focus (simp only[zA,zB,zC,zD];rfl))));refine hR _ _ ?_;clear hR R)
   refine zeY (fun R hR=>?_)
   refine zgY (by first|rfl|(rw[HO.out];rfl)) rfl (fun K hK=>?_)
   go_wp2
   first|refine⟨(by first|exact .inl rfl|exact .inl trivial|trivial),hR _ _ (RY.wpL_nil (hQR _ _ ?_))⟩|refine hR _ _ (RY.wpL_nil (hQR _ _ ?_))|refine hQR _ _ ?_
   (try clear hR);(try clear R);clear hQR QR HO OPS
   clear x3 k0 k1 k2 k3 kf0 kf1 kf2 kf3
   obtain⟨hVR,hVZ,hG,hC⟩:=HST.out
   obtain⟨⟨r0,r1,r2,r3,r4⟩,-⟩:=hVR.five
   obtain⟨⟨z0,z1,z2,z3,z4⟩,zf0,zf1,zf2,zf3,zf4⟩:=hVZ.five
   have hVZ4:=(((((hVZ.set 0 (.int .i64 f)).set 1 (.int .i64 s)).set 2 (.int .i64 a)).set 3 (.slice (some ⟨bq,0,none⟩) X.length e1)).set 4 (.slice q2 T.length e2))
   simp only[List.set_cons_zero,List.set_cons_succ] at hVZ4
   obtain⟨⟨t0,t1,t2,t3,t4⟩,-⟩:=hVZ4.five
   have hset:((((w5.setCell ⟨bq,ix*4,none⟩ (.slice qn rn.sh.length cn)).setCell ⟨bq,ix*4+1,none⟩ (.int .i64 rn.value)).setCell ⟨bq,ix*4+2,none⟩ (.int .i64 rn.weight)).setCell ⟨bq,ix*4+3,none⟩ (.int .i64 rn.report)).grownBy (((((((((w5.setCell ⟨bq,ix*4,none⟩ (.slice qn rn.sh.length cn)).setCell ⟨bq,ix*4+1,none⟩ (.int .i64 rn.value)).setCell ⟨bq,ix*4+2,none⟩ (.int .i64 rn.weight)).setCell ⟨bq,ix*4+3,none⟩ (.int .i64 rn.report)).setCell ⟨Rb+1,0,none⟩ (.int .i64 f)).setCell ⟨Rb+1,1,none⟩ (.int .i64 s)).setCell ⟨Rb+1,2,none⟩ (.int .i64 a)).setCell ⟨Rb+1,3,none⟩ (.slice (some ⟨bq,0,none⟩) X.length e1)).setCell ⟨Rb+1,4,none⟩ (.slice q2 T.length e2)) (some (Rb+1)):=(((((grownBy_setCell _ _ _ _).trans (grownBy_setCell _ _ _ _)).trans (grownBy_setCell _ _ _ _)).trans (grownBy_setCell _ _ _ _)).trans (grownBy_setCell _ _ _ _))
   have hbR2:base≤Rb+2:=by have:=HRB.out;omega
   have hRZ:=(HRF.out).grown hset (fun k hk=>by injection hk with hk;omega)
   have hTZ:=((HTn.out.taf.mono hA2)).grown hset (fun k hk=>by injection hk with hk;omega)
   have HGF:Hid (w.grownBy (((((((((w5.setCell ⟨bq,ix*4,none⟩ (.slice qn rn.sh.length cn)).setCell ⟨bq,ix*4+1,none⟩ (.int .i64 rn.value)).setCell ⟨bq,ix*4+2,none⟩ (.int .i64 rn.weight)).setCell ⟨bq,ix*4+3,none⟩ (.int .i64 rn.report)).setCell ⟨Rb+1,0,none⟩ (.int .i64 f)).setCell ⟨Rb+1,1,none⟩ (.int .i64 s)).setCell ⟨Rb+1,2,none⟩ (.int .i64 a)).setCell ⟨Rb+1,3,none⟩ (.slice (some ⟨bq,0,none⟩) X.length e1)).setCell ⟨Rb+1,4,none⟩ (.slice q2 T.length e2)) (some g)):=zN (grw_set (grw_set (grw_set (grw_set (grw_set hG (.inr (by have:=HRB.out;omega))) (.inr (by have:=HRB.out;omega))) (.inr (by have:=HRB.out;omega))) (.inr (by have:=HRB.out;omega))) (.inr (by have:=HRB.out;omega)))
   have hSZ:∀ xr∈(X.set ix (rn,qn,cn)),xr.1.sh.length≤xr.2.2∧ShOwn (((((((((w5.setCell ⟨bq,ix*4,none⟩ (.slice qn rn.sh.length cn)).setCell ⟨bq,ix*4+1,none⟩ (.int .i64 rn.value)).setCell ⟨bq,ix*4+2,none⟩ (.int .i64 rn.weight)).setCell ⟨bq,ix*4+3,none⟩ (.int .i64 rn.report)).setCell ⟨Rb+1,0,none⟩ (.int .i64 f)).setCell ⟨Rb+1,1,none⟩ (.int .i64 s)).setCell ⟨Rb+1,2,none⟩ (.int .i64 a)).setCell ⟨Rb+1,3,none⟩ (.slice (some ⟨bq,0,none⟩) X.length e1)).setCell ⟨Rb+1,4,none⟩ (.slice q2 T.length e2)) base xr.2.1 xr.1.sh:=fun xr hxr=>(by rcases List.mem_or_eq_of_mem_set hxr with hm|hm;exact⟨(HXS.out xr hm).1,(HXS.out xr hm).2.grown HGF.out (fun k hk=>by injection hk with hk;omega)⟩;subst hm;exact⟨HSN.out.1,(HSN.out.2.grown hset (fun k hk=>by injection hk with hk;have:=HRB.out;have:=HW4S.out;show k < w4.heap.size;omega)).mono HW4B.out⟩)
   have HSO:=zN (sysOwn_of (f:=f) (s:=s) (a:=a) (hRZ.mono hbR2) (hTZ.mono hbR2) hSZ)
   have HCF:=zN (((((hC.set1 hgn1 hbn1 0 (.int .i64 f)).set1 hgn1 hbn1 1 (.int .i64 s)).set1 hgn1 hbn1 2 (.int .i64 a)).set1 hgn1 hbn1 3 (.slice (some ⟨bq,0,none⟩) X.length e1)).set1 hgn1 hbn1 4 (.slice q2 T.length e2))
   have HT:=zN (And.intro t0 (And.intro t1 (And.intro t2 (And.intro t3 t4))))
   clear hVZ4 hVR hVZ hG hC t0 t1 t2 t3 t4 hRZ hTZ hSZ hset
   go_wp2
   obtain⟨t0,t1,t2,t3,t4⟩:=HT.out
   refine bodyPost_ret (v:=.agg #[.int .i64 f,.int .i64 s,.int .i64 a,.slice (some ⟨bq,0,none⟩) X.length e1,.slice q2 T.length e2]) ?_ rfl ⟨_,_,rfl,HSO.out,by simp,by show T.length≤T.length+201;omega,fun r hr=>by obtain⟨x,hx,rfl⟩:=List.mem_map.1 hr;rcases List.mem_or_eq_of_mem_set hx with hm|hm;(have:=HXB.out x hm;omega);(subst hm;exact HLN.out),HGF.out,j5,HCF.out⟩
   simp[results,Tryz.results11,go_sem,t0,t1,t2,t3,t4]
  ·have hd:decide ((X.length:Int) > 0)=false:=zDf (by omega)
   obtain⟨⟨r0,r1,r2,r3,r4⟩,-⟩:=hVR.five
   obtain⟨⟨z0,z1,z2,z3,z4⟩,zf0,zf1,zf2,zf3,zf4⟩:=hVZ.five
   have hVZ4:=(((((hVZ.set 0 (.int .i64 f)).set 1 (.int .i64 s)).set 2 (.int .i64 a)).set 3 (.slice q1 X.length e1)).set 4 (.slice q2 T.length e2))
   simp only[List.set_cons_zero,List.set_cons_succ] at hVZ4
   obtain⟨⟨t0,t1,t2,t3,t4⟩,-⟩:=hVZ4.five
   have hset:w3.grownBy (((((w3.setCell ⟨Rb+1,0,none⟩ (.int .i64 f)).setCell ⟨Rb+1,1,none⟩ (.int .i64 s)).setCell ⟨Rb+1,2,none⟩ (.int .i64 a)).setCell ⟨Rb+1,3,none⟩ (.slice q1 X.length e1)).setCell ⟨Rb+1,4,none⟩ (.slice q2 T.length e2)) (some (Rb+1)):=(((((grownBy_setCell _ _ _ _).trans (grownBy_setCell _ _ _ _)).trans (grownBy_setCell _ _ _ _)).trans (grownBy_setCell _ _ _ _)).trans (grownBy_setCell _ _ _ _))
   have hbR2:base≤Rb+2:=by have:=HRB.out;omega
   have hRZ:=(hRo.rof).grown hset (fun k hk=>by injection hk with hk;omega)
   have hTZ:=((hTo.taf.mono hA2)).grown hset (fun k hk=>by injection hk with hk;omega)
   have HGF:Hid (w.grownBy (((((w3.setCell ⟨Rb+1,0,none⟩ (.int .i64 f)).setCell ⟨Rb+1,1,none⟩ (.int .i64 s)).setCell ⟨Rb+1,2,none⟩ (.int .i64 a)).setCell ⟨Rb+1,3,none⟩ (.slice q1 X.length e1)).setCell ⟨Rb+1,4,none⟩ (.slice q2 T.length e2)) (some g)):=zN (grw_set (grw_set (grw_set (grw_set (grw_set hG (.inr (by have:=HRB.out;omega))) (.inr (by have:=HRB.out;omega))) (.inr (by have:=HRB.out;omega))) (.inr (by have:=HRB.out;omega))) (.inr (by have:=HRB.out;omega)))
   have hSZ:∀ xr∈X,xr.1.sh.length≤xr.2.2∧ShOwn (((((w3.setCell ⟨Rb+1,0,none⟩ (.int .i64 f)).setCell ⟨Rb+1,1,none⟩ (.int .i64 s)).setCell ⟨Rb+1,2,none⟩ (.int .i64 a)).setCell ⟨Rb+1,3,none⟩ (.slice q1 X.length e1)).setCell ⟨Rb+1,4,none⟩ (.slice q2 T.length e2)) base xr.2.1 xr.1.sh:=fun xr hxr=>⟨(HXS.out xr hxr).1,(HXS.out xr hxr).2.grown HGF.out (fun k hk=>by injection hk with hk;omega)⟩
   have HSO:=zN (sysOwn_of (f:=f) (s:=s) (a:=a) (hRZ.mono hbR2) (hTZ.mono hbR2) hSZ)
   have HCF:=zN (((((hC.set1 hgn1 hbn1 0 (.int .i64 f)).set1 hgn1 hbn1 1 (.int .i64 s)).set1 hgn1 hbn1 2 (.int .i64 a)).set1 hgn1 hbn1 3 (.slice q1 X.length e1)).set1 hgn1 hbn1 4 (.slice q2 T.length e2))
   have HT:=zN (And.intro t0 (And.intro t1 (And.intro t2 (And.intro t3 t4))))
   clear hVZ4 hVR hVZ hG hC t0 t1 t2 t3 t4 hRZ hTZ hSZ hset
   go_wp2
   obtain⟨t0,t1,t2,t3,t4⟩:=HT.out
   refine bodyPost_ret (v:=.agg #[.int .i64 f,.int .i64 s,.int .i64 a,.slice q1 X.length e1,.slice q2 T.length e2]) ?_ rfl ⟨_,_,rfl,HSO.out,by simp,by show T.length≤T.length+201;omega,fun r hr=>by obtain⟨x,hx,rfl⟩:=List.mem_map.1 hr;have:=HXB.out x hx;omega,HGF.out,j3,HCF.out⟩
   simp[results,Tryz.results11,go_sem,t0,t1,t2,t3,t4]
 ·have hWR:w.heap.size≤Rb:=by have:=HRB.out;omega
  have hSt:StL w g b L Rb f s a w3 (.slice q1 X.length e1) (.slice q2 T.length e2) (.slice q1 X.length e1) (.slice q2 T.length e2) X T:=⟨hRo,own_mono hTo hA2,hVR,hVZ,hG,j3,hC⟩
  have HSt:=zN hSt
  obtain⟨⟨r0,r1,r2,r3,r4⟩,rf0,rf1,rf2,rf3,rf4⟩:=hVR.five
  clear hRo hTo hVR hVZ hG hC hSt r0 r1 r2 r3 r4 rf0 rf1 rf2 rf3 rf4
  go_wp2
  go_loopw [] (fun wr=>∃ u t Xk Tk,StL w g b L Rb f s a wr u t u t Xk Tk∧(∀ x∈Xk,x∈X)∧X.length≤Xk.length∧(Xk.length=X.length∨Xk.length≤201)∧Tk.length+X.length=T.length+Xk.length) (fun wr=>202-rowsAt wr Rb)
  case atStart=>exact⟨_,_,_,_,HSt.out,fun x h=>h,Nat.le_refl _,.inl rfl,rfl⟩
  case round=>
   obtain⟨u,t,Xk,Tk,hS,hmem,hX1,hX2,hTX⟩:=hrel
   clear HSt
   obtain⟨p6,c6,rfl,-⟩:=own_slice hS.ro
   obtain⟨p7,d7,rfl,-⟩:=own_slice hS.ta
   by_cases hlt:0 < Xk.length∧Xk.length≤200
   ·have h0x:=hlt.1
    obtain⟨x0,hx0⟩:∃ x0,x0=Xk[0]'h0x:=⟨_,rfl⟩
    obtain⟨p9,cap9,bq,e,hc9,hp9,hx9⟩:=hS.ro.rof
    injection e with e _ e10
    subst e
    obtain⟨rfl,-,-⟩:=hp9 hlt.1
    clear hc9 hp9 hx9 e10
    have HX0:=zN hx0
    have hx0m:x0∈X:=hmem _ (by rw[hx0];exact List.getElem_mem _)
    clear hx0
    have hd1:decide ((Xk.length:Int) > 0)=true:=zDt (by omega)
    have hd2:decide ((Xk.length:Int)≤200)=true:=zDt (by omega)
    obtain⟨⟨r0,r1,r2,r3,r4⟩,-⟩:=hS.vr.five
    have HSS:=zN hS
    have HQ:=zN (And.intro hmem (And.intro hX1 (And.intro hX2 hTX)))
    have hlx:=hlt.2
    clear hS hmem hX1 hX2 hTX hlt
    have hl9:Tk.length≤2000:=by have:=HL.out.2;have:=HQ.out.2.2.2;omega
    go_wp2
    clear r0 r1 r2 r3 r4 hd1 hd2
    refine regionLI bq x0 (by kernel_rfl) (by kernel_rfl) (by rfl) (by rfl) HSS.out ?_ ?_
    ·intro pre post hp hp3
     have hp3:pre.getD 3 undef=.pointer (some ⟨Rb,0,none⟩):=hp3
     refine⟨?_,?_,?_,?_,?_,?_,?_,?_,?_,?_,?_,?_,?_,?_,?_,?_,trivial⟩
     ·intro d a w hd hdep hI
      have a3:=(hI.pre hp 3 (by omega)).trans hp3
      go_wp2
      exact hI.put hp (k:=0) (by omega) (by omega) (by omega) (by omega) (fun h=>absurd h (by omega)) hd rfl (fun _ _ _ _ _ _ h=>h) (fun _ _ h=>h)
     ·intro d a w hd hdep hI
      have a3:=(hI.pre hp 3 (by omega)).trans hp3
      obtain⟨u,t,cu,ct,Xu,Tt,hS,hF⟩:=hI.st hp
      have d13:d 13=false:=by
       cases e:d 13 with
       |false=>rfl
       |true=>rw[(hF.c1 e).2.1] at hd;cases hd
      have r:=(hS.vr.five).1.2.2.2.1
      rw[hF.c0 d13] at r
      have ea:a.tmps[26]?.getD undef=.pointer (some ⟨Rb,3,none⟩):=hI.at hp 0 26 rfl (by omega) (hdep ⟨0,.data⟩ (by simp) rfl)
      clear hF hS
      go_wp2
      exact hI.put hp (k:=1) (by omega) (by omega) (by omega) (by omega) (fun h=>absurd h (by omega)) hd rfl (fun _ _ _ _ _ _ h=>h) (fun _ _ h=>h)
     ·intro d a w hd hdep hI
      have a3:=(hI.pre hp 3 (by omega)).trans hp3
      go_wp2
      exact hI.put hp (k:=2) (by omega) (by omega) (by omega) (by omega) (fun h=>absurd h (by omega)) hd rfl (fun _ _ _ _ _ _ h=>h) (fun _ _ h=>h)
     ·intro d a w hd hdep hI
      have a3:=(hI.pre hp 3 (by omega)).trans hp3
      obtain⟨u,t,cu,ct,Xu,Tt,hS,hF⟩:=hI.st hp
      have d13:d 13=false:=by
       cases e:d 13 with
       |false=>rfl
       |true=>rw[(hF.c1 e).2.2.1] at hd;cases hd
      have r:=(hS.vr.five).1.2.2.2.1
      rw[hF.c0 d13] at r
      have ea:a.tmps[28]?.getD undef=.pointer (some ⟨Rb,3,none⟩):=hI.at hp 2 28 rfl (by omega) (hdep ⟨2,.data⟩ (by simp) rfl)
      clear hF hS
      go_wp2
      exact hI.put hp (k:=3) (by omega) (by omega) (by omega) (by omega) (fun h=>absurd h (by omega)) hd rfl (fun _ _ _ _ _ _ h=>h) (fun _ _ h=>h)
     ·intro d a w hd hdep hI
      have a3:=(hI.pre hp 3 (by omega)).trans hp3
      have ea:a.tmps[29]?.getD undef=.slice (some ⟨bq,0,none⟩) Xk.length c6:=hI.at hp 3 29 rfl (by omega) (hdep ⟨3,.data⟩ (by simp) rfl)
      have h0i:(0:Int) < (Xk.length:Int):=by omega
      go_wp2
      exact hI.put hp (k:=4) (by omega) (by omega) (by omega) (by omega) (fun h=>absurd h (by omega)) hd rfl (fun _ _ _ _ _ _ h=>h) (fun _ _ h=>h)
     ·intro d a w hd hdep hI
      have a3:=(hI.pre hp 3 (by omega)).trans hp3
      obtain⟨u,t,cu,ct,Xu,Tt,hS,hF⟩:=hI.st hp
      have d6:d 6=false:=by
       cases e:d 6 with
       |false=>rfl
       |true=>rw[hF.f6 e] at hd;cases hd
      have d7:d 7=false:=by
       cases e:d 7 with
       |false=>rfl
       |true=>rw[(hF.r1 e).2.2] at d6;cases d6
      obtain⟨rfl,rfl⟩:=hF.r0 d7
      obtain⟨k0,k1,k2,k3⟩:=hS.ro.cell0 h0x
      rw[←HX0.out] at k0 k1 k2 k3
      have ea:a.tmps[30]?.getD undef=.pointer (some ⟨bq,0,none⟩):=hI.at hp 4 30 rfl (by omega) (hdep ⟨4,.data⟩ (by simp) rfl)
      clear hF hS
      go_wp2
      exact hI.put hp (k:=5) (by omega) (by omega) (by omega) (by omega) (fun h=>absurd h (by omega)) hd rfl (fun _ _ _ _ _ _ h=>h) (fun _ _ h=>h)
     ·intro d a w hd hdep hI
      have a3:=(hI.pre hp 3 (by omega)).trans hp3
      have ea:a.tmps[31]?.getD undef=.agg #[.slice x0.2.1 x0.1.sh.length x0.2.2,.int .i64 x0.1.value,.int .i64 x0.1.weight,.int .i64 x0.1.report]:=hI.at hp 5 31 rfl (by omega) (hdep ⟨5,.data⟩ (by simp) rfl)
      go_wp2
      exact hI.put hp (k:=6) (by omega) (by omega) (by omega) (by omega) (fun _=>hdep ⟨5,.data⟩ (by simp) rfl) hd (fun _=>⟨w.heap.size,rfl,heap_alloc_new _ _⟩) (fun _ _ _ _ _ _ h=>h.alloc _) (keepA _ _)
     ·intro d a w hd hdep hI
      have a3:=(hI.pre hp 3 (by omega)).trans hp3
      obtain⟨u,t,cu,ct,Xu,Tt,hS,hF⟩:=hI.st hp
      obtain⟨rfl,rfl⟩:=hF.r0 hd
      have ea:a.tmps[27]?.getD undef=_:=hI.at hp 1 27 rfl (by omega) (hdep ⟨1,.data⟩ (by simp) rfl)
      obtain⟨A,eb,hA⟩:=(hI.at hp 6 32 rfl (by omega) (hdep ⟨6,.data⟩ (by simp) rfl)) hd
      have hsz:=zM _ _ hS.vz.five.1.1
      have hsz:Rb+1 < w.heap.size:=hsz
      refine RX.wp_app elRow _ _ rfl (Rb+2) _ _ _ hS.ro (by simpa[Act.eval] using ea) A _ 1 (by simpa[Act.eval] using eb) hA rfl (by simp[Value.oneCell']) (by omega) (by omega) (by omega) (fun v' w' hown hb hg hat=>?_)
      exact hI.app7 hp hd (hdep ⟨6,.data⟩ (by simp) rfl) hWR hgR hbR (RoV.snoc hown) hg
     ·intro d a w hd hdep hI
      have a3:=(hI.pre hp 3 (by omega)).trans hp3
      go_wp2
      exact hI.put hp (k:=8) (by omega) (by omega) (by omega) (by omega) (fun h=>absurd h (by omega)) hd rfl (fun _ _ _ _ _ _ h=>h) (fun _ _ h=>h)
     ·intro d a w hd hdep hI
      have a3:=(hI.pre hp 3 (by omega)).trans hp3
      obtain⟨u,t,cu,ct,Xu,Tt,hS,hF⟩:=hI.st hp
      have d13:d 13=false:=by
       cases e:d 13 with
       |false=>rfl
       |true=>rw[(hF.c1 e).2.2.2.1] at hd;cases hd
      have d15:d 15=false:=by
       cases e:d 15 with
       |false=>rfl
       |true=>rw[(hF.e1 e).2] at d13;cases d13
      have r:=(hS.vr.five).1.2.2.2.2
      rw[hF.e0 d15] at r
      have ea:a.tmps[34]?.getD undef=.pointer (some ⟨Rb,4,none⟩):=hI.at hp 8 34 rfl (by omega) (hdep ⟨8,.data⟩ (by simp) rfl)
      clear hF hS
      go_wp2
      exact hI.put hp (k:=9) (by omega) (by omega) (by omega) (by omega) (fun h=>absurd h (by omega)) hd rfl (fun _ _ _ _ _ _ h=>h) (fun _ _ h=>h)
     ·intro d a w hd hdep hI
      have a3:=(hI.pre hp 3 (by omega)).trans hp3
      go_wp2
      exact hI.put hp (k:=10) (by omega) (by omega) (by omega) (by omega) (fun h=>absurd h (by omega)) hd (fun _=>⟨w.heap.size,rfl,heap_alloc_new _ _⟩) (fun _ _ _ _ _ _ h=>h.alloc _) (keepA _ _)
     ·intro d a w hd hdep hI
      have a3:=(hI.pre hp 3 (by omega)).trans hp3
      obtain⟨u,t,cu,ct,Xu,Tt,hS,hF⟩:=hI.st hp
      obtain⟨rfl,rfl⟩:=hF.q0 hd
      have ea:a.tmps[35]?.getD undef=_:=hI.at hp 9 35 rfl (by omega) (hdep ⟨9,.data⟩ (by simp) rfl)
      obtain⟨A,eb,hA⟩:=(hI.at hp 10 36 rfl (by omega) (hdep ⟨10,.data⟩ (by simp) rfl)) hd
      have hsz:Rb+1 < w.heap.size:=zM _ _ hS.vz.five.1.1
      refine RX.wp_app elInt _ _ rfl (Rb+2) _ _ _ hS.ta (by simpa[Act.eval] using ea) A _ 1 (by simpa[Act.eval] using eb) hA rfl (by simp[Value.oneCell']) (by omega) (by omega) (by omega) (fun v' w' hown hb hg hat=>?_)
      exact hI.app11 hp hd (hdep ⟨7,.chain⟩ (by simp) rfl) hWR hgR hbR (RowV.snoc hown) hg
     ·intro d a w hd hdep hI
      have a3:=(hI.pre hp 3 (by omega)).trans hp3
      go_wp2
      exact hI.put hp (k:=12) (by omega) (by omega) (by omega) (by omega) (fun h=>absurd h (by omega)) hd rfl (fun _ _ _ _ _ _ h=>h) (fun _ _ h=>h)
     ·intro d a w hd hdep hI
      have a3:=(hI.pre hp 3 (by omega)).trans hp3
      obtain⟨u,t,cu,ct,Xu,Tt,hS,hF⟩:=hI.st hp
      have d11:d 11=true:=hdep ⟨11,.chain⟩ (by simp) rfl
      have ho:=hI.st13 hp hd (hdep ⟨1,.phase⟩ (by simp) rfl) (hdep ⟨3,.phase⟩ (by simp) rfl) (hdep ⟨9,.phase⟩ (by simp) rfl) d11 hWR hgR hbR
      have eb:=(hF.r1 (hF.q1 d11).2.2).2.1
      obtain⟨pu,qu,rfl,-⟩:=own_slice hS.ro
      have ea:a.tmps[38]?.getD undef=.pointer (some ⟨Rb,3,none⟩):=hI.at hp 12 38 rfl (by omega) (hdep ⟨12,.data⟩ (by simp) rfl)
      have x3:=hS.vr.five.1.2.2.2.1
      have xf:=hS.vr.five.2.2.2.2.1
      rw[eb] at ho
      clear hF hS
      go_wp2
      all_goals exact ho
     ·intro d a w hd hdep hI
      have a3:=(hI.pre hp 3 (by omega)).trans hp3
      go_wp2
      exact hI.put hp (k:=14) (by omega) (by omega) (by omega) (by omega) (fun h=>absurd h (by omega)) hd rfl (fun _ _ _ _ _ _ h=>h) (fun _ _ h=>h)
     ·intro d a w hd hdep hI
      have a3:=(hI.pre hp 3 (by omega)).trans hp3
      obtain⟨u,t,cu,ct,Xu,Tt,hS,hF⟩:=hI.st hp
      have d13:d 13=true:=hdep ⟨13,.chain⟩ (by simp) rfl
      have ho:=hI.st15 hp hd d13 hWR hgR hbR
      have eb:=(hF.q1 (hF.c1 d13).2.2.2.2).2.1
      obtain⟨pu,qu,rfl,-⟩:=own_slice hS.ta
      have ea:a.tmps[39]?.getD undef=.pointer (some ⟨Rb,4,none⟩):=hI.at hp 14 39 rfl (by omega) (hdep ⟨14,.data⟩ (by simp) rfl)
      have x3:=hS.vr.five.1.2.2.2.2
      have xf:=hS.vr.five.2.2.2.2.2
      rw[eb] at ho
      clear hF hS
      go_wp2
      all_goals exact ho
    ·intro y0 y1 y2 y3 y4 y5 y6 y7 y8 y9 y10 y11 y12 y13 wz u9 t9 hS9
     simp only[List.take_succ_cons,List.take_zero,List.drop_succ_cons,List.drop_zero,List.cons_append,List.nil_append]
     have HS9:=zN hS9
     obtain⟨p9,c9,rfl,-⟩:=own_slice hS9.ro
     have hr9:=rowsAt_of hS9.vr.five.1.2.2.2.1
     clear hS9
     go_wp2
     go_roundw
     case rel=>exact⟨_,_,_,_,HS9.out,fun x hx=>(by rcases List.mem_append.1 hx with hx|hx;exact HQ.out.1 x hx;rw[List.mem_singleton.1 hx];exact hx0m),by have:=HQ.out.2.1;simp;omega,.inr (by simp;omega),by have:=HQ.out.2.2.2;simp;omega⟩
     case measure=>
      rw[hr9,rowsAt_of HSS.out.vr.five.1.2.2.2.1]
      simp;omega
   ·by_cases h0:0 < Xk.length
    ·have hd1:decide ((Xk.length:Int) > 0)=true:=zDt (by omega)
     have hd2:decide ((Xk.length:Int)≤200)=false:=zDf (by omega)
     have hRo:=hS.ro.rof
     have hTo:=hS.ta.taf
     have hVR:=hS.vr
     have hVZ:=hS.vz
     obtain⟨hG,j6,hC⟩:=hS.qw
     clear hS
     obtain⟨⟨r0,r1,r2,r3,r4⟩,-⟩:=hVR.five
     obtain⟨⟨z0,z1,z2,z3,z4⟩,zf0,zf1,zf2,zf3,zf4⟩:=hVZ.five
     have hVZ4:=(((((hVZ.set 0 (.int .i64 f)).set 1 (.int .i64 s)).set 2 (.int .i64 a)).set 3 (.slice p6 Xk.length c6)).set 4 (.slice p7 Tk.length d7))
     simp only[List.set_cons_zero,List.set_cons_succ] at hVZ4
     obtain⟨⟨t0,t1,t2,t3,t4⟩,-⟩:=hVZ4.five
     have hset:wr.grownBy (((((wr.setCell ⟨Rb+1,0,none⟩ (.int .i64 f)).setCell ⟨Rb+1,1,none⟩ (.int .i64 s)).setCell ⟨Rb+1,2,none⟩ (.int .i64 a)).setCell ⟨Rb+1,3,none⟩ (.slice p6 Xk.length c6)).setCell ⟨Rb+1,4,none⟩ (.slice p7 Tk.length d7)) (some (Rb+1)):=(((((grownBy_setCell _ _ _ _).trans (grownBy_setCell _ _ _ _)).trans (grownBy_setCell _ _ _ _)).trans (grownBy_setCell _ _ _ _)).trans (grownBy_setCell _ _ _ _))
     have hbR2:base≤Rb+2:=by have:=HRB.out;omega
     have hRZ:=(hRo).grown hset (fun k hk=>by injection hk with hk;omega)
     have hTZ:=(hTo).grown hset (fun k hk=>by injection hk with hk;omega)
     have HGF:Hid (w.grownBy (((((wr.setCell ⟨Rb+1,0,none⟩ (.int .i64 f)).setCell ⟨Rb+1,1,none⟩ (.int .i64 s)).setCell ⟨Rb+1,2,none⟩ (.int .i64 a)).setCell ⟨Rb+1,3,none⟩ (.slice p6 Xk.length c6)).setCell ⟨Rb+1,4,none⟩ (.slice p7 Tk.length d7)) (some g)):=zN (grw_set (grw_set (grw_set (grw_set (grw_set hG (.inr (by have:=HRB.out;omega))) (.inr (by have:=HRB.out;omega))) (.inr (by have:=HRB.out;omega))) (.inr (by have:=HRB.out;omega))) (.inr (by have:=HRB.out;omega)))
     have hSZ:∀ xr∈Xk,xr.1.sh.length≤xr.2.2∧ShOwn (((((wr.setCell ⟨Rb+1,0,none⟩ (.int .i64 f)).setCell ⟨Rb+1,1,none⟩ (.int .i64 s)).setCell ⟨Rb+1,2,none⟩ (.int .i64 a)).setCell ⟨Rb+1,3,none⟩ (.slice p6 Xk.length c6)).setCell ⟨Rb+1,4,none⟩ (.slice p7 Tk.length d7)) base xr.2.1 xr.1.sh:=fun xr hxr=>⟨(HXS.out xr (hmem xr hxr)).1,(HXS.out xr (hmem xr hxr)).2.grown HGF.out (fun k hk=>by injection hk with hk;omega)⟩
     have HSO:=zN (sysOwn_of (f:=f) (s:=s) (a:=a) (hRZ.mono hbR2) (hTZ.mono hbR2) hSZ)
     have HCF:=zN (((((hC.set1 hgn1 hbn1 0 (.int .i64 f)).set1 hgn1 hbn1 1 (.int .i64 s)).set1 hgn1 hbn1 2 (.int .i64 a)).set1 hgn1 hbn1 3 (.slice p6 Xk.length c6)).set1 hgn1 hbn1 4 (.slice p7 Tk.length d7))
     have HT:=zN (And.intro t0 (And.intro t1 (And.intro t2 (And.intro t3 t4))))
     clear hVZ4 hVR hVZ hG hC t0 t1 t2 t3 t4 hRZ hTZ hSZ hset
     go_wp2
     obtain⟨t0,t1,t2,t3,t4⟩:=HT.out
     refine bodyPost_ret (v:=.agg #[.int .i64 f,.int .i64 s,.int .i64 a,.slice p6 Xk.length c6,.slice p7 Tk.length d7]) ?_ rfl ⟨_,_,rfl,HSO.out,by simp;have:=HL.out.1;rcases hX2 with h|h<;>omega,by show Tk.length≤T.length+201;have:=HL.out.1;rcases hX2 with h|h<;>omega,fun r hr=>by obtain⟨x,hx,rfl⟩:=List.mem_map.1 hr;have:=HXB.out x (hmem x hx);omega,HGF.out,j6,HCF.out⟩
     simp[results,Tryz.results11,go_sem,t0,t1,t2,t3,t4]
    ·have hd1:decide ((Xk.length:Int) > 0)=false:=zDf (by omega)
     have hRo:=hS.ro.rof
     have hTo:=hS.ta.taf
     have hVR:=hS.vr
     have hVZ:=hS.vz
     obtain⟨hG,j6,hC⟩:=hS.qw
     clear hS
     obtain⟨⟨r0,r1,r2,r3,r4⟩,-⟩:=hVR.five
     obtain⟨⟨z0,z1,z2,z3,z4⟩,zf0,zf1,zf2,zf3,zf4⟩:=hVZ.five
     have hVZ4:=(((((hVZ.set 0 (.int .i64 f)).set 1 (.int .i64 s)).set 2 (.int .i64 a)).set 3 (.slice p6 Xk.length c6)).set 4 (.slice p7 Tk.length d7))
     simp only[List.set_cons_zero,List.set_cons_succ] at hVZ4
     obtain⟨⟨t0,t1,t2,t3,t4⟩,-⟩:=hVZ4.five
     have hset:wr.grownBy (((((wr.setCell ⟨Rb+1,0,none⟩ (.int .i64 f)).setCell ⟨Rb+1,1,none⟩ (.int .i64 s)).setCell ⟨Rb+1,2,none⟩ (.int .i64 a)).setCell ⟨Rb+1,3,none⟩ (.slice p6 Xk.length c6)).setCell ⟨Rb+1,4,none⟩ (.slice p7 Tk.length d7)) (some (Rb+1)):=(((((grownBy_setCell _ _ _ _).trans (grownBy_setCell _ _ _ _)).trans (grownBy_setCell _ _ _ _)).trans (grownBy_setCell _ _ _ _)).trans (grownBy_setCell _ _ _ _))
     have hbR2:base≤Rb+2:=by have:=HRB.out;omega
     have hRZ:=(hRo).grown hset (fun k hk=>by injection hk with hk;omega)
     have hTZ:=(hTo).grown hset (fun k hk=>by injection hk with hk;omega)
     have HGF:Hid (w.grownBy (((((wr.setCell ⟨Rb+1,0,none⟩ (.int .i64 f)).setCell ⟨Rb+1,1,none⟩ (.int .i64 s)).setCell ⟨Rb+1,2,none⟩ (.int .i64 a)).setCell ⟨Rb+1,3,none⟩ (.slice p6 Xk.length c6)).setCell ⟨Rb+1,4,none⟩ (.slice p7 Tk.length d7)) (some g)):=zN (grw_set (grw_set (grw_set (grw_set (grw_set hG (.inr (by have:=HRB.out;omega))) (.inr (by have:=HRB.out;omega))) (.inr (by have:=HRB.out;omega))) (.inr (by have:=HRB.out;omega))) (.inr (by have:=HRB.out;omega)))
     have hSZ:∀ xr∈Xk,xr.1.sh.length≤xr.2.2∧ShOwn (((((wr.setCell ⟨Rb+1,0,none⟩ (.int .i64 f)).setCell ⟨Rb+1,1,none⟩ (.int .i64 s)).setCell ⟨Rb+1,2,none⟩ (.int .i64 a)).setCell ⟨Rb+1,3,none⟩ (.slice p6 Xk.length c6)).setCell ⟨Rb+1,4,none⟩ (.slice p7 Tk.length d7)) base xr.2.1 xr.1.sh:=fun xr hxr=>⟨(HXS.out xr (hmem xr hxr)).1,(HXS.out xr (hmem xr hxr)).2.grown HGF.out (fun k hk=>by injection hk with hk;omega)⟩
     have HSO:=zN (sysOwn_of (f:=f) (s:=s) (a:=a) (hRZ.mono hbR2) (hTZ.mono hbR2) hSZ)
     have HCF:=zN (((((hC.set1 hgn1 hbn1 0 (.int .i64 f)).set1 hgn1 hbn1 1 (.int .i64 s)).set1 hgn1 hbn1 2 (.int .i64 a)).set1 hgn1 hbn1 3 (.slice p6 Xk.length c6)).set1 hgn1 hbn1 4 (.slice p7 Tk.length d7))
     have HT:=zN (And.intro t0 (And.intro t1 (And.intro t2 (And.intro t3 t4))))
     clear hVZ4 hVR hVZ hG hC t0 t1 t2 t3 t4 hRZ hTZ hSZ hset
     go_wp2
     obtain⟨t0,t1,t2,t3,t4⟩:=HT.out
     refine bodyPost_ret (v:=.agg #[.int .i64 f,.int .i64 s,.int .i64 a,.slice p6 Xk.length c6,.slice p7 Tk.length d7]) ?_ rfl ⟨_,_,rfl,HSO.out,by simp;have:=HL.out.1;rcases hX2 with h|h<;>omega,by show Tk.length≤T.length+201;have:=HL.out.1;rcases hX2 with h|h<;>omega,fun r hr=>by obtain⟨x,hx,rfl⟩:=List.mem_map.1 hr;have:=HXB.out x (hmem x hx);omega,HGF.out,j6,HCF.out⟩
     simp[results,Tryz.results11,go_sem,t0,t1,t2,t3,t4]
end Go.Proofs.YtojkamfabapcoaaGreatDoor
