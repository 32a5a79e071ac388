import Derived.Test.YtednaajanciabaaGreatDoorKRefA
import Derived.Test.YtednaajanciabaaGreatDoorKFreq
import Derived.Test.YtednaajanciabaaGreatDoorKRegion
import Derived.ArgAppend
import Derived.Test.YtednaajanciabaaGreatDoorSortS
import Derived.Test.YtednaajanciabaaGreatDoorLocate
import Derived.Test.YtednaajanciabaaGreatDoorGridL
set_option maxRecDepth 100000
set_option maxHeartbeats 8000000
set_option linter.unusedSimpArgs false
set_option linter.unusedVariables false
namespace Go.Proofs.YtednaajanciabaaGreatDoor
open Go.RowKit Go.Grid
def AtMul (i:Value) (h k:Nat):Prop:=∃ x:Nat,x=k*h∧i=.int .i64 x
theorem AtMul.next {h k y:Nat} (hy:y=k*h):AtMul (.int .i64 ((y:Int)+(h:Int))) h (k+1):=⟨y+h,by rw[Nat.succ_mul,hy],by rw[Int.natCast_add]⟩
theorem AtMul.zero (h:Nat):AtMul (.int .i64 0) h 0:=⟨0,by simp,rfl⟩
def foundI (L:List Pl) (p:Pl):Int:=match ix L p with
 |some i=>(i:Int)
 |none=>-1
structure Corner (n:Nat) (q:Pl):Prop where
 ok:q.Ok
 found:foundI (nodesL n) (normal q)=(atL n q:Int)
 le:atL n q≤100000
end Go.Proofs.YtednaajanciabaaGreatDoor
namespace Go.RX
open Go.RowKit
theorem own_new {w:World} {B:Nat} {cs:Array Value} {e:TypeId} {size:Nat} (hB:w.heap[B]?=some (.cells cs e (0,0))) (hc:cs.size=size):w.ownsRow B e size (.slice (some ⟨B,0,none⟩) 1 1) 1 cs.toList:=by
 refine⟨by simpa using hc,.inr ⟨B,1,cs,rfl,Nat.le_refl _,hB,Nat.le_refl _,by unfold maxLen;omega,by omega,?_⟩⟩
 rw[Nat.one_mul,List.take_of_length_le (by simpa using Nat.le_of_eq hc)]
theorem run_app_nil {P:Program} {w:World} {t ty e:TypeId} {z:Value} {size bytes:Nat} (E:ElemOf P t e z size bytes) (a:Addr) (n c c':Nat) (hn:n≤c):(Builtin.append_ #[t,t] ty #[.slice (some a) n c,.slice none 0 c']).run P w=.ok (.slice (some a) n c) w:=by
 obtain⟨i0,hi,hz,hsize,hby⟩:=info_parts E.hi
 simp[Builtin.append_,run_underlying E.ht,sizeOf,typeInfo,hi,Builtin.lenOf,Builtin.firstCells,hn,storeCells]
def SrcAt (w:World) (A:Option Addr) (m:Nat) (news:List Value):Prop:=0 < m→∃ ad,A=some ad∧∀ j u,news[j]?=some u→w.cell? (ad.add j)=some u
theorem add_add (a:Addr) (i j:Nat):(a.add i).add j=a.add (i+j):=by
 unfold Addr.add
 by_cases hi:i=0<;>by_cases hj:j=0<;>simp[hi,hj,zQ]
theorem SrcAt.cut {w:World} {A:Option Addr} {n k cap size:Nat} {xs:List Value} (h:SrcAt w A n xs) (hk:k≤n) (hc:n≤cap):SrcAt w (if cap=k then A else A.map (·.add (k*size))) (n-k) (xs.drop (k*size)):=fun hm=>by
 obtain⟨ad,rfl,hcell⟩:=h (by omega)
 rw[if_neg (by omega)]
 refine⟨ad.add (k*size),rfl,fun j u hu=>?_⟩
 rw[add_add]
 exact hcell _ u (by rw[←hu,List.getElem?_drop])
theorem SrcAt.of_own {w:World} {base:Nat} {e:TypeId} {size n c:Nat} {A:Option Addr} {xs:List Value} (h:w.ownsRow base e size (.slice A n c) n xs):SrcAt w A n xs:=fun hn=>by
 obtain⟨g,cap,hv,_,hlt⟩:=h.form hn
 have hA:A=some ⟨g,0,none⟩:=by injection hv
 subst hA
 exact⟨_,rfl,h.cells (g:=g) rfl⟩
theorem SrcAt.take {w:World} {A:Option Addr} {n k size:Nat} {xs:List Value} (h:SrcAt w A n xs) (hk:k≤n):SrcAt w A k (xs.take (k*size)):=fun hm=>by
 obtain⟨ad,e,hc⟩:=h (by omega)
 refine⟨ad,e,fun j u hu=>hc j u ?_⟩
 rw[List.getElem?_take] at hu
 split at hu
 ·exact hu
 ·cases hu
theorem SrcAt.none (w:World) (A:Option Addr) (xs:List Value):SrcAt w A 0 xs:=fun h=>by omega
theorem SrcAt.keep {w w':World} {A:Option Addr} {m:Nat} {news:List Value} (h:SrcAt w A m news) (hb:∀ p v,w.cell? p=some v→w'.cell? p=some v):SrcAt w' A m news:=fun hm=>by
 obtain⟨ad,e,hc⟩:=h hm
 exact⟨ad,e,fun j u hu=>hb _ _ (hc j u hu)⟩
theorem wp_apr {P:Program} {o:Oper} {a:Act} {w:World} {K:Act→World→Prop} {Q:Exit→Act→World→Prop} {t e:TypeId} {z:Value} {size bytes:Nat} (E:ElemOf P t e z size bytes) (s x:Operand)
  (ho:o.op=.call { callee:=.builtin .append,args:=#[s,x],argTypes:=#[t,t] })
  (B:Nat) (cs:Array Value) (hs:a.eval s=.slice (some ⟨B,0,none⟩) 1 1) (hB:w.heap[B]?=some (.cells cs e (0,0))) (hc:cs.size=size)
  (A:Option Addr) (m c:Nat) (news:List Value) (hx:a.eval x=.slice A m c) (hl:news.length=m*size) (hA:SrcAt w A m news) (h1:∀ u∈news,u.oneCell'=true)
  (hbytes:(1+m)*bytes≤140737488355328) (hn:1+m≤140737488355328)
  (h:∀ v' w',w'.ownsRow B e size v' (1+m) (cs.toList ++ news)→w.grownBy w' (some B)→(v'.ownBlock=some B∨v'.ownBlock=some w.heap.size)→K (a.put o.dst v') w'):o.wp P a w K Q:=by
 have hlt:B < w.heap.size:=by
  rcases Nat.lt_or_ge B w.heap.size with h0|h0
  ·exact h0
  ·rw[Array.getElem?_eq_none h0] at hB;cases hB
 have hown:=own_new hB hc
 cases A with
 |none=>
  have hm:m=0:=by
   rcases Nat.eq_zero_or_pos m with h0|h0
   ·exact h0
   ·obtain⟨ad,e0,_⟩:=hA h0;cases e0
  subst hm
  have hnn:news=[]:=List.eq_nil_of_length_eq_zero (by simpa using hl)
  subst hnn
  have hrun:=run_app_nil (P:=P) (w:=w) (ty:=o.type) E ⟨B,0,none⟩ 1 1 c (Nat.le_refl _)
  unfold Oper.wp execOp
  simp only[ho,resolve,invoke,builtin,Sem.run_bind,Sem.run_pure,Result.andThen_ok,List.map_toArray,List.map_cons,List.map_nil,hs,hx,hrun]
  exact h _ _ (by simpa using hown) (World.grownBy.refl _ _) (.inl rfl)
 |some ad=>
  have hcell:∀ j u,news[j]?=some u→w.cell? (ad.add j)=some u:=fun j u hu=>by
   rcases Nat.eq_zero_or_pos m with h0|h0
   ·subst h0
    have hnn:news=[]:=List.eq_nil_of_length_eq_zero (by simpa using hl)
    subst hnn
    simp at hu
   ·obtain⟨ad',e0,hc'⟩:=hA h0
    injection e0 with e0
    subst e0
    exact hc' j u hu
  obtain⟨i0,hi,hz,hsize,hby⟩:=info_parts E.hi
  obtain⟨v',w',hrun,h2,h3,_,h5⟩:=run_append_own_at (P:=P) w B t o.type e i0 z size bytes E.ht hi hz hsize hby E.hz E.pos _ 1 _ hown ad m c news hl hcell h1 (by unfold maxLen;omega) hbytes (by omega)
  unfold Oper.wp execOp
  simp only[ho,resolve,invoke,builtin,Sem.run_bind,Sem.run_pure,Result.andThen_ok,List.map_toArray,List.map_cons,List.map_nil,hs,hx,hrun]
  exact h v' w' h2 h3 h5
theorem wpl_apr {P:Program} {ops:Array Oper} {rest:List Oper} {o:Oper} {a:Act} {w:World} {Q:Exit→Act→World→Prop} {t e:TypeId} {z:Value} {size bytes:Nat} (hgd:o.guard=none) (E:ElemOf P t e z size bytes) (s x:Operand)
  (ho:o.op=.call { callee:=.builtin .append,args:=#[s,x],argTypes:=#[t,t] })
  (B:Nat) (cs:Array Value) (hs:a.eval s=.slice (some ⟨B,0,none⟩) 1 1) (hB:w.heap[B]?=some (.cells cs e (0,0))) (hc:cs.size=size)
  (A:Option Addr) (m c:Nat) (news:List Value) (hx:a.eval x=.slice A m c) (hl:news.length=m*size) (hA:SrcAt w A m news) (h1:∀ u∈news,u.oneCell'=true)
  (hbytes:(1+m)*bytes≤140737488355328) (hn:1+m≤140737488355328)
  (h:∀ v' w',w'.ownsRow B e size v' (1+m) (cs.toList ++ news)→w.grownBy w' (some B)→(v'.ownBlock=some B∨v'.ownBlock=some w.heap.size)→wpList P ops Q rest (a.put o.dst v') w'):wpList P ops Q (o :: rest) a w:=
 wpList_plain hgd fun _ hK=>wp_apr E s x ho B cs hs hB hc A m c news hx hl hA h1 hbytes hn fun v' w' a b c=>hK _ _ (h v' w' a b c)
theorem wp_apg {P:Program} {o:Oper} {a:Act} {w:World} {K:Act→World→Prop} {Q:Exit→Act→World→Prop} {t e:TypeId} {z:Value} {size bytes:Nat} (E:ElemOf P t e z size bytes) (s x:Operand)
  (ho:o.op=.call { callee:=.builtin .append,args:=#[s,x],argTypes:=#[t,t] })
  (A:Option Addr) (k:Nat) (olds:List Value) (hs:a.eval s=.slice A k k) (hnone:A=none→k=0) (hlo:olds.length=k*size) (hA:SrcAt w A k olds)
  (base m:Nat) (v:Value) (news:List Value) (hx:a.eval x=v) (hown:w.ownsRow base e size v m news) (hm:0 < m) (h1:∀ u∈news,u.oneCell'=true)
  (hbytes:(k+m)*bytes≤140737488355328) (hn:k+m≤140737488355328)
  (h:∀ v' w',w'.ownsRow w.heap.size e size v' (k+m) (olds ++ news)→w.grownBy w' none→K (a.put o.dst v') w'):o.wp P a w K Q:=by
 obtain⟨i0,hi,hz,hsize,hby⟩:=info_parts E.hi
 obtain⟨g,cap,hv,_,hlt⟩:=hown.form hm
 subst hv
 cases A with
 |none=>
  have hk:=hnone rfl
  subst hk
  obtain rfl:olds=[]:=List.eq_nil_of_length_eq_zero (by simpa using hlo)
  obtain⟨v',w',hrun,r1,r2,_⟩:=run_append_own (P:=P) w w.heap.size t o.type e i0 z size bytes E.ht hi hz hsize hby E.hz E.pos (.slice none 0 0) 0 [] (World.ownsRow_nil w _ e size) ⟨g,0,none⟩ m cap news hown.1 (hown.cells (g:=g) rfl) h1 (by unfold maxLen;omega) hbytes (Nat.le_refl _)
  unfold Oper.wp execOp
  simp only[ho,resolve,invoke,builtin,Sem.run_bind,Sem.run_pure,Result.andThen_ok,List.map_toArray,List.map_cons,List.map_nil,hs,hx,hrun]
  exact h v' w' r1 r2
 |some ad=>
  have hcell:∀ j u,olds[j]?=some u→w.cell? (ad.add j)=some u:=fun j u hu=>by
   rcases Nat.eq_zero_or_pos k with h0|h0
   ·subst h0
    have hnn:olds=[]:=List.eq_nil_of_length_eq_zero (by simpa using hlo)
    subst hnn
    simp at hu
   ·obtain⟨ad',e0,hc'⟩:=hA h0
    injection e0 with e0
    subst e0
    exact hc' j u hu
  obtain⟨v',w',hrun,r1,r2⟩:=run_append_arg_grows (P:=P) w t o.type e i0 z size bytes E.ht hi hz hsize hby E.hz E.pos ad k k olds hlo hcell ⟨g,0,none⟩ m cap news hown.1 (hown.cells (g:=g) rfl) (by omega) (by unfold maxLen;omega) hbytes
  unfold Oper.wp execOp
  simp only[ho,resolve,invoke,builtin,Sem.run_bind,Sem.run_pure,Result.andThen_ok,List.map_toArray,List.map_cons,List.map_nil,hs,hx,hrun]
  exact h v' w' r1 r2
theorem wpl_apg {P:Program} {ops:Array Oper} {rest:List Oper} {o:Oper} {a:Act} {w:World} {Q:Exit→Act→World→Prop} {t e:TypeId} {z:Value} {size bytes:Nat} (hgd:o.guard=none) (E:ElemOf P t e z size bytes) (s x:Operand)
  (ho:o.op=.call { callee:=.builtin .append,args:=#[s,x],argTypes:=#[t,t] })
  (A:Option Addr) (k:Nat) (olds:List Value) (hs:a.eval s=.slice A k k) (hnone:A=none→k=0) (hlo:olds.length=k*size) (hA:SrcAt w A k olds)
  (base m:Nat) (v:Value) (news:List Value) (hx:a.eval x=v) (hown:w.ownsRow base e size v m news) (hm:0 < m) (h1:∀ u∈news,u.oneCell'=true)
  (hbytes:(k+m)*bytes≤140737488355328) (hn:k+m≤140737488355328)
  (h:∀ v' w',w'.ownsRow w.heap.size e size v' (k+m) (olds ++ news)→w.grownBy w' none→wpList P ops Q rest (a.put o.dst v') w'):wpList P ops Q (o :: rest) a w:=
 wpList_plain hgd fun _ hK=>wp_apg E s x ho A k olds hs hnone hlo hA base m v news hx hown hm h1 hbytes hn fun v' w' a b=>hK _ _ (h v' w' a b)
end Go.RX
namespace Go.Proofs.YtednaajanciabaaGreatDoor
open Go.RowKit Go.Grid
def ShRow (w:World) (base:Nat) (v:Value) (S:List (Nat × Nat)):Prop:=w.ownsRow base 123 2 v S.length (S.flatMap encN)
theorem ShRow.nil (w:World) (base:Nat):ShRow w base (.slice none 0 0) []:=World.ownsRow_nil _ _ _ _
theorem ShRow.kept {w w':World} {base:Nat} {v:Value} {S:List (Nat × Nat)} (h:ShRow w base v S) (hb:Below w.heap.size w w'):ShRow w' base v S:=
 World.ownsRow.kept (row:=none) h ⟨hb.os,hb.tape,hb.output,hb.size,fun k hk _=>hb.block k hk⟩ (by
  cases v.ownBlock with
  |none=>exact .inl rfl
  |some k=>exact .inr (by simp))
theorem ShRow.mono {w:World} {base base':Nat} {v:Value} {S:List (Nat × Nat)} (h:ShRow w base v S) (hb:base'≤base):ShRow w base' v S:=own_mono h hb
theorem encN_get:∀ (S:List (Nat × Nat)) (m:Nat) (h:m < S.length) (j:Nat),j < 2→(S.flatMap encN)[m*2+j]?=(encN S[m])[j]?
 |p :: L,0,h,j,hj=>by
  simp only[List.flatMap_cons,Nat.zero_mul,Nat.zero_add]
  rw[List.getElem?_append_left (by simp[encN];omega)];rfl
 |p :: L,m+1,h,j,hj=>by
  have ih:=encN_get L m (by simpa using h) j hj
  simp only[List.flatMap_cons]
  rw[List.getElem?_append_right (by simp[encN];omega),show (m+1)*2+j-(encN p).length=m*2+j by simp[encN];omega,ih];rfl
theorem ShRow.form {w:World} {base:Nat} {v:Value} {S:List (Nat × Nat)} (h:ShRow w base v S):∃ p cap b,v=.slice p S.length cap∧S.length≤cap∧(0 < S.length→p=some ⟨b,0,none⟩∧base≤b∧b < w.heap.size)∧SharesAt w b S∧(p=none→cap=0):=by
 rcases h.2 with ⟨h1,h2⟩|⟨g,cap,cur,h1,h2,h3,h4,_⟩
 ·exact⟨none,0,0,by rw[h1,h2],by omega,fun hh=>by omega,fun j hj=>by omega,fun _=>rfl⟩
 ·refine⟨_,cap,g,h1,h4,fun hp=>⟨rfl,h2,(World.ownsRow.lt h g (by rw[h1];rfl)).2⟩,fun j hj=>?_,fun e=>by cases e⟩
  subst h1
  have key:∀ i,i < 2→w.cell? ⟨g,j*2+i,none⟩=(encN S[j])[i]?:=fun i hi=>by
   rw[World.ownsRow.cellAt h (j*2+i) (by omega),←encN_get S j hj i hi]
  exact⟨key 0 (by omega),key 1 (by omega)⟩
theorem ShRow.ins {w:World} {base base':Nat} {v:Value} {S:List (Nat × Nat)} {k nd wt:Nat} (hk:k≤S.length) (h:w.ownsRow base 123 2 v (k+(1+(S.length-k))) ((S.take k).flatMap encN ++ (#[Value.int .i64 nd,.int .i64 wt].toList ++ (S.drop k).flatMap encN))) (hb:base'≤base):ShRow w base' v (S.take k ++ (nd,wt) :: S.drop k):=by
 unfold ShRow
 have e1:(S.take k ++ (nd,wt) :: S.drop k).length=k+(1+(S.length-k)):=by
  rw[List.length_append,List.length_take,List.length_cons,List.length_drop];omega
 have e2:(S.take k ++ (nd,wt) :: S.drop k).flatMap encN=(S.take k).flatMap encN ++ (#[Value.int .i64 nd,.int .i64 wt].toList ++ (S.drop k).flatMap encN):=by
  rw[List.flatMap_append,List.flatMap_cons];rfl
 rw[e1,e2]
 exact own_mono h hb
def raw (n:Nat) (C:List (Pl × Nat)):List (Nat × Nat):=(C.filter (fun c=>decide (0 < c.2))).map (fun c=>(atL n c.1,c.2))
def ShInv (w:World) (base:Nat) (v:Value) (n:Nat) (C:List (Pl × Nat)):Prop:=∃ T,ShRow w base v T∧Asc T∧T.Perm (raw n C)∧T.length≤C.length
theorem ShInv.nil (w:World) (base n:Nat):ShInv w base (.slice none 0 0) n []:=⟨[],ShRow.nil _ _,List.Pairwise.nil,List.Perm.refl _,Nat.le_refl _⟩
theorem ShInv.kept {w w':World} {base n:Nat} {v:Value} {C:List (Pl × Nat)} (h:ShInv w base v n C) (hb:Below w.heap.size w w'):ShInv w' base v n C:=by
 obtain⟨T,h1,h2⟩:=h;exact⟨T,h1.kept hb,h2⟩
end Go.Proofs.YtednaajanciabaaGreatDoor
