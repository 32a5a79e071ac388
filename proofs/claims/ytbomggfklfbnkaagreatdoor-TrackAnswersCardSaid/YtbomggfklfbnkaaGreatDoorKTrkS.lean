import Derived.Test.YtbomggfklfbnkaaGreatDoorKTrkC
import Derived.Test.YtbomggfklfbnkaaGreatDoorKChain
import Derived.Test.YtbomggfklfbnkaaGreatDoorLaid
import Derived.Test.YtbomggfklfbnkaaGreatDoorKRegion
import Derived.Maps.RangeWalk
import Derived.StringKeys
import Derived.Test.YtbomggfklfbnkaaGreatDoorKCells
set_option maxRecDepth 100000
set_option maxHeartbeats 8000000
set_option linter.unusedSimpArgs false
set_option linter.unusedVariables false
namespace Go.Proofs.YtbomggfklfbnkaaGreatDoor
open Go.RowKit Go.Grid Go.Maps Go.Sort Go.Shelf Go.Chain
theorem sw_block {α:Type} [Inhabited α] (enc:α→Value) (w:World) (blk off m:Nat) (dk:Array α) (os:Array Obj) {b:Nat} (hne:b≠blk) (hl:b < w.heap.size):(sortWorld enc w blk off m dk os).heap[b]?=w.heap[b]?:=by
 show (w.heap.modify blk _ ++ os)[b]?=w.heap[b]?
 rw[Array.getElem?_append_left (by simpa using hl),Array.getElem?_modify,if_neg (Ne.symm hne)]
theorem sw_size {α:Type} [Inhabited α] (enc:α→Value) (w:World) (blk off m:Nat) (dk:Array α) (os:Array Obj):w.heap.size≤(sortWorld enc w blk off m dk os).heap.size:=by
 show w.heap.size≤(w.heap.modify blk _ ++ os).size
 simp
theorem names1_any (B M cap:Nat) (p:Option Addr) (l:List Rep) (i k:Nat) (hM:l.length=M) (hM30:M≤30) (hi:i < M) (hk:k < M) (hi1:0≤(l.getD i rep0).time∧(l.getD i rep0).time≤52595999) (hk1:0≤(l.getD k rep0).time∧(l.getD k rep0).time≤52595999) (w:World) (hB:w.cell? ⟨B,0,none⟩=some (.slice p M cap)) (hV:VecR w p l) :
  Calls Tryz.prog 57 #[.int .i64 (i:Int),.int .i64 (k:Int),.pointer (some ⟨B,0,none⟩)] w fun e w'=>e=.returned (.int .i64 ((l.getD i rep0).time-(l.getD k rep0).time))∧w'=w.drew:=by
 obtain⟨bb,o,rfl,_,hrp⟩:=hV.cell (by omega)
 have hri:=hrp i (by omega)
 have hrk:=hrp k (by omega)
 have ei:l.getD i rep0=l[i]'(by omega):=by rw[List.getD_eq_getElem?_getD,List.getElem?_eq_getElem (by omega)];rfl
 have ek:l.getD k rep0=l[k]'(by omega):=by rw[List.getD_eq_getElem?_getD,List.getElem?_eq_getElem (by omega)];rfl
 rw[←ei] at hri
 rw[←ek] at hrk
 generalize l.getD i rep0=ri at *
 generalize l.getD k rep0=rk at *
 obtain⟨_,_,c2,_,_,_,_,_,_⟩:=hri
 obtain⟨_,_,d2,_,_,_,_,_,_⟩:=hrk
 obtain⟨h1,h2⟩:=hi1
 obtain⟨h3,h4⟩:=hk1
 have hi0:(0:Int)≤(i:Int):=by omega
 have hi1:(i:Int) < (M:Int):=by omega
 have hk0:(0:Int)≤(k:Int):=by omega
 have hk1:(k:Int) < (M:Int):=by omega
 clear hrp hV ei ek hM
 go_enter Tryz.func57,Tryz.ntmps57
 go_wp2_with fail
 refine RX.region RX.fN (fun w'=>w'=_) (by kernel_rfl) (by kernel_rfl) rfl (fun OPS HO QR hQR=>?_)
 repeat (refine zeX (fun R hR=>?_);(first|refine zaX (by first|rfl|(rw[HO.out];rfl)) (by simp only[zA,zB,zC,zD];rfl) ?_|refine zbX (by first|rfl|(rw[HO.out];rfl)) rfl (by first|exact .inl rfl|exact .inr rfl) (by simp only[zE,zF,zG,zH];rfl) (by simp only[zA,zB,zC,zD];rfl) ?_|refine zcX (by first|rfl|(rw[HO.out];rfl)) rfl rfl (by simp only[zE,zF,zG,zH];rfl) (by simp only[zA,zB,zC,zD];rfl) ?_|(refine zdX (by first|rfl|(rw[HO.out];rfl)) rfl rfl rfl ?_;apply zEx;apply zEx;refine⟨fun w' hS K hK=>?_,?_,?_⟩;(focus (subst hS;go_wp2;exact hK _ _ (by simp only[zl,zG,zH];first|exact zf (by omega)|exact zg (by omega)|exact zh (by omega)|exact zi (by omega)|exact zj (by omega)|exact zk (by omega)|exact RX.bneB _|rfl) rfl));(focus (simp only[zA,zB,zC,zD];rfl))));refine hR _ _ ?_;clear hR R)
 refine RX.wpL_nil (hQR _ _ rfl ?_);clear hQR QR HO OPS
 go_wp2
 go_ret
 exact⟨rfl,rfl⟩
abbrev Mv (l:List Rep):={ i:Nat // i < l.length∧movB (l.getD i rep0)=true }
def encM (l:List Rep) (x:Mv l):Value:=.int .i64 (x.1:Int)
def cfM (l:List Rep) (x y:Mv l):Int:=(l.getD x.1 rep0).time-(l.getD y.1 rep0).time
theorem ltM_iff (l:List Rep) (x y:Mv l):ltOf (cfM l) x y=true↔(l.getD x.1 rep0).time < (l.getD y.1 rep0).time:=by
 unfold ltOf cfM;rw[decide_eq_true_eq];omega
theorem ltM_not (l:List Rep) (x y:Mv l):ltOf (cfM l) x y=false↔¬ (l.getD x.1 rep0).time < (l.getD y.1 rep0).time:=by rw[←ltM_iff,Bool.not_eq_true]
theorem swoM (l:List Rep):SWO (ltOf (cfM l)) where
 irrefl:=fun x=>(ltM_not l x x).2 (by omega)
 trans:=fun x y z h1 h2=>(ltM_iff l _ _).2 (by have a:=(ltM_iff l _ _).1 h1;have b:=(ltM_iff l _ _).1 h2;omega)
 ntrans:=fun x y z h1 h2=>(ltM_not l _ _).2 (by have a:=(ltM_not l _ _).1 h1;have b:=(ltM_not l _ _).1 h2;omega)
theorem enters_names1:∀ args w,(callFunc 57 args).run Tryz.prog w=.ok (.enter 57 args) w:=enters_of Tryz.func57 (by kernel_rfl) rfl
theorem attach_mv {l:List Rep}:∀ (T:List Nat),(∀ i∈T,i < l.length∧movB (l.getD i rep0)=true)→∃ d:List (Mv l),d.map (·.1)=T
 |[],_=>⟨[],rfl⟩
 |i :: T,h=>by
  obtain⟨d,hd⟩:=attach_mv T (fun j hj=>h j (List.mem_cons_of_mem _ hj))
  exact⟨⟨i,h i (List.mem_cons_self ..)⟩ :: d,by rw[List.map_cons,hd]⟩
theorem sortNames_any (base B M cap blk c:Nat) (p:Option Addr) (l:List Rep) (T:List Nat) (hM:l.length=M) (hM30:M≤30) (hT0:T≠[]) (hT:∀ i∈T,i < l.length∧movB (l.getD i rep0)=true) (hvl:∀ i,i < l.length→movB (l.getD i rep0)=true→ValR (l.getD i rep0)) (hTl:T.length≤30) (w:World) (hB:w.cell? ⟨B,0,none⟩=some (.slice p M cap)) (hBb:B≠blk) (hV:VecR w p l) (hpb:∀ a,p=some a→0 < M→a.block≠blk) (hq:w.ownsRow base 3 1 (.slice (some ⟨blk,0,none⟩) T.length c) T.length (qV T)) :
  Calls Tryz.prog 56 #[.slice (some ⟨blk,0,none⟩) T.length c,.func (.func 57) #[] #[.pointer (some ⟨B,0,none⟩)]] w fun e w'=>e=.returned (.tuple #[])∧w.grownBy w' (some blk)∧∃ T':List Nat,T'.Perm T∧T'.Pairwise (fun i k=>(l.getD i rep0).time≤(l.getD k rep0).time)∧w'.ownsRow base 3 1 (.slice (some ⟨blk,0,none⟩) T'.length c) T'.length (qV T'):=by
 obtain⟨d,hd⟩:=attach_mv T hT
 have hdl:d.length=T.length:=by rw[←hd,List.length_map]
 have hd0:0 < d.length:=by rw[hdl];exact List.length_pos_iff.2 hT0
 haveI:Inhabited (Mv l):=⟨d[0]⟩
 have hown:w.ownsRow base 3 1 (.slice (some ⟨blk,0,none⟩) d.length c) d.length (d.map (encM l)):=by
  rw[hdl]
  have e:d.map (encM l)=qV T:=by rw[←hd];unfold qV;rw[List.map_map];rfl
  rw[e];exact hq
 have hblk:=(World.ownsRow.lt hown blk rfl).2
 obtain⟨cur,hbase,hheap,hcc,hcm,hcs,htk⟩:∃ cur,base≤blk∧w.heap[blk]?=some (.cells cur 3 (0,0))∧d.length≤c∧c≤maxLen∧cur.size=c*1∧cur.toList.take (d.length*1)=d.map (encM l):=by
  rcases hown.2 with ⟨h,_⟩|⟨g,cap',cur,h1,h2,h3,h4,h5,h6,h7⟩
  ·cases h
  ·simp only[Value.slice.injEq,Option.some.injEq,Addr.mk.injEq] at h1
   obtain⟨⟨rfl,_⟩,_,rfl⟩:=h1
   exact⟨cur,h2,h3,h4,h5,h6,h7⟩
 have hH:Holds (encM l) w blk 0 d.toArray:=by
  intro j hj
  have hj':j < d.length:=by simpa using hj
  have h1:=World.ownsRow.cellAt hown j (by omega)
  refine⟨?_,by simp[World.frozen?,hheap]⟩
  rw[Nat.zero_add,h1,List.getElem?_map,List.getElem?_eq_getElem hj',getElem!_pos d.toArray j hj]
  simp
 have hcmp:CmpLays1 Tryz.prog 57 #[.pointer (some ⟨B,0,none⟩)] (encM l) (cfM l) blk 0 d.toArray.size w:=by
  intro m os dk hs x y
  have hWB:(sortWorld (encM l) w blk 0 m dk os).cell? ⟨B,0,none⟩=some (.slice p M cap):=(World.cell?_of_block (sw_block _ _ _ _ _ _ _ hBb (zM _ _ hB))).trans hB
  have hWV:VecR (sortWorld (encM l) w blk 0 m dk os) p l:=hV.turn (fun a ha=>by
   have hx:=x.2.1
   obtain⟨b',o',e',hl',_⟩:=hV.cell (by omega)
   rw[ha] at e'
   have e2:a=⟨b',o',none⟩:=by injection e'
   exact sw_block _ _ _ _ _ _ _ (hpb a ha (by omega)) (by rw[e2];exact hl'))
  have hx:=hvl x.1 x.2.1 x.2.2
  have hy:=hvl y.1 y.2.1 y.2.2
  refine (names1_any B M cap p l x.1 y.1 hM hM30 (by have:=x.2.1;omega) (by have:=y.2.1;omega) hx.2 hy.2 _ hWB hWV).mono ?_
  rintro e w' ⟨rfl,rfl⟩
  exact⟨rfl,1,#[],by rw[grow_empty];rfl⟩
 have hs:=Tryz.slices_SortFunc (encM l) (fun x=>rfl) (cfM l) (swoM l) 57 #[.pointer (some ⟨B,0,none⟩)] blk 0 c d.toArray w enters_names1 hcmp hH hblk (by simp;omega)
 rw[show d.toArray.size=T.length by simp[hdl]] at hs
 refine hs.mono ?_
 rintro e w' ⟨rfl,d',n,os,hperm,hsort,rfl⟩
 have hps:d'.size=d.length:=by simpa using hperm.1
 have hp:d'.toList.Perm d:=by
  have h2:=hperm.2.2
  have h3:d'.extract 0 T.length=d':=by rw[←hdl,←hps];simp
  rw[h3,←hdl] at h2
  simpa using h2
 refine⟨rfl,⟨rfl,rfl,rfl,sw_size _ _ _ _ _ _ _,fun k hk hne=>sw_block _ _ _ _ _ _ _ (fun e=>hne (by rw[e])) hk⟩,d'.toList.map (·.1),?_,?_,?_⟩
 ·have:=hp.map (·.1)
  rwa[hd] at this
 ·rw[List.pairwise_map,List.pairwise_iff_getElem]
  intro i j hi hj hij
  have hi':i < d'.size:=by simpa using hi
  have hj':j < d'.size:=by simpa using hj
  have h2:=hsort i j (Nat.zero_le _) hij (by rw[←hdl,←hps];exact hj')
  rw[ltM_not,getElem!_pos d' j hj',getElem!_pos d' i hi'] at h2
  have e1:d'.toList[i]=d'[i]:=by simp
  have e2:d'.toList[j]=d'[j]:=by simp
  rw[e1,e2]
  omega
 ·have hl2:(d'.toList.map (·.1)).length=T.length:=by simp[hps,hdl]
  rw[hl2]
  have hqv:qV (d'.toList.map (·.1))=d'.toList.map (encM l):=by unfold qV;rw[List.map_map];rfl
  rw[hqv]
  refine⟨by simp[hps,hdl],.inr ⟨blk,c,putCells (encM l) 0 d' cur,rfl,hbase,?_,by rw[←hdl];exact hcc,hcm,by simpa[putCells] using hcs,?_⟩⟩
  ·show (w.heap.modify blk (onCells (putCells (encM l) 0 d')) ++ os)[blk]?=_
   rw[Array.getElem?_append_left (by simpa using hblk),Array.getElem?_modify,if_pos rfl,hheap]
   rfl
  ·refine List.ext_getElem ?_ fun j h1 h2=>?_
   ·simp[putCells,hcs,hps];omega
   ·have hj:j < d'.size:=by simpa using h2
    rw[List.getElem_take,List.getElem_map]
    simp only[putCells,Array.getElem_toList,Array.getElem_mapIdx]
    rw[if_pos ⟨Nat.zero_le _,by omega⟩,Nat.sub_zero,getElem!_pos d' j hj]
end Go.Proofs.YtbomggfklfbnkaaGreatDoor
namespace Go.RY
def fK (o:Oper):Bool:=match o.op with
 |.lookup ..=>true
 |_=>fN o
end Go.RY
namespace Go.RX
theorem wp_mapUpdate {H:Type} {P:Program} {o:Oper} {a:Act} {w:World} {K:Act→World→Prop} {Q:Exit→Act→World→Prop} (m x v:Operand) (t:TypeId) (hop:o.op=Op.mapUpdate t m x v)
  (k e:TypeId) (K0:Maps.Keyed P k) (ht:P.underlying t=some (.map k e)) (R:Value→Option (DataW H × List MemPlace)) (b n:Nat) (D:DataW H)
  (hm:a.eval m=.map (some b)) (hown:w.ownsMap P k R b n D) (hn:n < maxLen) (key val:Value) (kl:Lit) (hx:a.eval x=key) (hv:a.eval v=val) (hkey:keyOf P k key=some kl)
  (d:DataW H) (ps:List MemPlace) (hval:R val=some (d,ps))
  (hK:∀ w',w'.ownsMap P k R b (n+1) (D.put kl d)→w.grownBy w' (some b)→K (a.put o.dst undef) w'):o.wp P a w K Q:=by
 obtain⟨w',hrun,r1,r2⟩:=hown.update K0 ht hn hkey hval
 unfold Oper.wp
 simp[execOp,hop,hm,hx,hv,hrun,Result.andThen]
 exact hK _ r1 r2
end Go.RX
namespace Go.Proofs.YtbomggfklfbnkaaGreatDoor
open Go.RowKit Go.Grid Go.Maps Go.Sort Go.Shelf Go.Chain
def keyS (s:ByteArray):Lit:=.string s.data.toList
theorem keyS_inj {s t:ByteArray} (h:keyS s=keyS t):s=t:=by
 unfold keyS at h
 injection h with h
 cases s;cases t
 rw[ByteArray.mk.injEq]
 exact Array.toList_inj.1 h
theorem lawS:Keyed Tryz.prog 9:=string_keyed Tryz.underlying9
theorem keyS_of {s:ByteArray} (h:s.size≤maxLen):keyOf Tryz.prog 9 (.string s)=some (keyS s):=Go.WideMaps.keyOf_string_mk Tryz.underlying9 h
theorem keyS_inv {key:Value} {kl:Lit} (h:keyOf Tryz.prog 9 key=some kl):∃ s:ByteArray,key=.string s∧kl=keyS s∧s.size≤maxLen:=by
 cases key<;>simp[keyOf,Tryz.underlying9,mapKey] at h
 rename_i s
 exact⟨s,rfl,h.2.symm,h.1⟩
theorem rowEl_inj {v v':Value} {y:DataW Unit} {ps ps':List MemPlace} (h:rowEl v=some (y,ps)) (h':rowEl v'=some (y,ps')):v=v':=by
 unfold rowEl at h
 split at h
 ·simp at h
  obtain⟨rfl,_⟩:=h
  exact (rowEl_nil h').symm
 ·rename_i b n c
  simp at h
  obtain⟨rfl,_⟩:=h
  exact (rowEl_inv h').symm
 ·simp at h
theorem look_plain {w:World} {m n:Nat} {D:DataW Unit} (h:w.ownsMap Tryz.prog 9 rowEl m n D) {s:ByteArray} (hs:s.size≤maxLen):∃ v ps,(∀ w':World,w'.heap[m]?=w.heap[m]?→(Instr.lookup 71 (.map (some m)) (.string s) false).run Tryz.prog w'=.ok v w')∧rowEl v=some (D.atKey (keyS s) .nil,ps):=by
 have gen:∀ w':World,w'.heap[m]?=w.heap[m]?→∃ v ps,(Instr.lookup 71 (.map (some m)) (.string s) false).run Tryz.prog w'=.ok v w'∧rowEl v=some (D.atKey (keyS s) .nil,ps):=by
  intro w' hw
  obtain⟨es,clock,hb,F,_,rfl⟩:=h
  rcases Maps.fit_look false lawS Tryz.underlying71 (zeroSl w') (hw.trans hb) F (keyS_of hs) with ⟨hrun,_,hat⟩|⟨e0,y,_,_,hrun,hRv,hat,_⟩
  ·exact⟨_,[],hrun,by rw[hat];rfl⟩
  ·exact⟨e0.val,y.2,hrun,by rw[hat];exact hRv⟩
 obtain⟨v,ps,h1,h2⟩:=gen w rfl
 refine⟨v,ps,fun w' hw=>?_,h2⟩
 obtain⟨v',ps',h3,h4⟩:=gen w' hw
 rw[rowEl_inj h2 h4];exact h3
theorem ownsMap_block {w w':World} {m n:Nat} {D:DataW Unit} {k:TypeId} (h:w.ownsMap Tryz.prog k rowEl m n D) (hb:w'.heap[m]?=w.heap[m]?):w'.ownsMap Tryz.prog k rowEl m n D:=by
 obtain⟨es,clock,h1,h2⟩:=h
 exact⟨es,clock,hb.trans h1,h2⟩
structure GrpD (w:World) (m base n:Nat) (G:ByteArray→List Nat) (B C:ByteArray→Nat) (D:DataW Unit):Prop where
 own:w.ownsMap Tryz.prog 9 rowEl m n D
 mb:m < base
 has:∀ s,Maps.has D (keyS s)=true↔G s≠[]
 at':∀ s,G s≠[]→∀ z,D.atKey (keyS s) z=.slice [.lit (.int .i64 (B s)),.lit (.int .i64 (G s).length),.lit (.int .i64 (C s))] []
 rows:∀ s,G s≠[]→w.ownsRow base 3 1 (.slice (some ⟨B s,0,none⟩) (G s).length (C s)) (G s).length (qV (G s))
 sep:∀ s t,G s≠[]→G t≠[]→B s=B t→s=t
theorem GrpD.bl {w w':World} {m base n:Nat} {G:ByteArray→List Nat} {B C:ByteArray→Nat} {D:DataW Unit} (h:GrpD w m base n G B C D) (hb:Below w.heap.size w w'):GrpD w' m base n G B C D:=
 ⟨ownsMap_block h.own (hb.block _ h.own.lt),h.mb,h.has,h.at',fun s hs=>own_bl (h.rows s hs) hb,h.sep⟩
theorem GrpD.look {w:World} {m base n:Nat} {G:ByteArray→List Nat} {B C:ByteArray→Nat} {D:DataW Unit} (h:GrpD w m base n G B C D) {s:ByteArray} (hs:s.size≤maxLen) :
  ∃ p c,(∀ w':World,w'.heap[m]?=w.heap[m]?→(Instr.lookup 71 (.map (some m)) (.string s) false).run Tryz.prog w'=.ok (.slice p (G s).length c) w')∧w.ownsRow base 3 1 (.slice p (G s).length c) (G s).length (qV (G s))∧∀ b,(Value.slice p (G s).length c).ownBlock=some b→G s≠[]∧b=B s:=by
 obtain⟨v,ps,h1,h2⟩:=look_plain h.own hs
 by_cases hG:G s=[]
 ·have hh:Maps.has D (keyS s)=false:=by
   cases hx:Maps.has D (keyS s) with
   |false=>rfl
   |true=>exact absurd hG ((h.has s).1 hx)
  rw[Maps.atKey_of_not_has hh] at h2
  obtain rfl:=rowEl_nil h2
  refine⟨none,0,?_,?_,fun b hb=>?_⟩
  ·rw[hG];exact h1
  ·rw[hG];exact World.ownsRow_nil _ _ _ _
  ·cases hb
 ·rw[h.at' s hG] at h2
  obtain rfl:=rowEl_inv h2
  exact⟨_,_,h1,h.rows s hG,fun b hb=>⟨hG,by injection hb with hb;exact hb.symm⟩⟩
theorem GrpD.put {w w2 w3:World} {m base n:Nat} {G:ByteArray→List Nat} {B C:ByteArray→Nat} {D:DataW Unit} (h:GrpD w m base n G B C D) {s:ByteArray} (hs:s.size≤maxLen) {v:Value} {b c k:Nat}
  (hvb:∀ q,v.ownBlock=some q→G s≠[]∧q=B s) (h2:∀ q,q < w.heap.size→some q≠v.ownBlock→w2.heap[q]?=w.heap[q]?) (hloc:some b=v.ownBlock∨w.heap.size≤b)
  (hown:w2.ownsRow base 3 1 (.slice (some ⟨b,0,none⟩) ((G s).length+1) c) ((G s).length+1) (qV (G s ++ [k])))
  (h3:w3.ownsMap Tryz.prog 9 rowEl m (n+1) (D.put (keyS s) (.slice [.lit (.int .i64 b),.lit (.int .i64 ((G s).length+1:Nat)),.lit (.int .i64 c)] []))) (hg:w2.grownBy w3 (some m)) :
  GrpD w3 m base (n+1) (fun t=>if t=s then G s ++ [k] else G t) (fun t=>if t=s then b else B t) (fun t=>if t=s then c else C t) (D.put (keyS s) (.slice [.lit (.int .i64 b),.lit (.int .i64 ((G s).length+1:Nat)),.lit (.int .i64 c)] [])):=by
 have hne:∀ t,t≠s→keyS t≠keyS s:=fun t ht e=>ht (keyS_inj e)
 have hrow:∀ t,G t≠[]→base≤B t∧B t < w.heap.size:=fun t ht=>World.ownsRow.lt (h.rows t ht) _ rfl
 refine⟨h3,h.mb,fun t=>?_,fun t ht z=>?_,fun t ht=>?_,fun t u ht hu e=>?_⟩
 ·by_cases e:t=s
  ·subst e
   rw[if_pos rfl]
   exact⟨fun _=>by simp,fun _=>Maps.has_put_same h.own.isMap (lawS.key (keyS_of hs)) _⟩
  ·rw[if_neg e,Maps.has_put_other (hne t e)]
   exact h.has t
 ·by_cases e:t=s
  ·subst e
   simp only[if_true]
   rw[Maps.atKey_put_same h.own.isMap (lawS.key (keyS_of hs))]
   simp
  ·simp only[if_neg e] at ht ⊢
   rw[Maps.atKey_put_other (hne t e)]
   exact h.at' t ht z
 ·by_cases e:t=s
  ·subst e
   simp only[if_true]
   have h4:=own_gr hown hg h.mb
   simpa using h4
  ·simp only[if_neg e] at ht ⊢
   have h4:=h.rows t ht
   obtain⟨hb1,hb2⟩:=hrow t ht
   have h5:w3.heap[B t]?=w.heap[B t]?:=by
    have hq:some (B t)≠v.ownBlock:=fun e'=>by
     obtain⟨g1,g2⟩:=hvb (B t) e'.symm
     exact e (h.sep t s ht g1 g2)
    have h6:w2.heap[B t]?=w.heap[B t]?:=h2 (B t) hb2 hq
    have h7:B t < w2.heap.size:=by
     obtain⟨o,ho⟩:∃ o,w.heap[B t]?=some o:=⟨_,Array.getElem?_eq_getElem hb2⟩
     rw[ho] at h6
     exact (Array.getElem?_eq_some_iff.1 h6).1
    exact (hg.block (B t) h7 (fun e'=>by have:=h.mb;injection e' with e';omega)).trans h6
   exact own_block h4 (fun q hq=>by
    have:q=B t:=by injection hq with hq;exact hq.symm
    rw[this];exact h5)
 ·by_cases e1:t=s
  ·by_cases e2:u=s
   ·rw[e1,e2]
   ·exfalso
    simp only[if_neg e2] at hu
    simp only[if_pos e1,if_neg e2] at e
    obtain⟨hb1,hb2⟩:=hrow u hu
    rcases hloc with hl|hl
    ·obtain⟨g1,g2⟩:=hvb b hl.symm
     exact e2 (h.sep u s hu g1 (by rw[←e,g2]))
    ·omega
  ·by_cases e2:u=s
   ·exfalso
    simp only[if_neg e1] at ht
    simp only[if_neg e1,if_pos e2] at e
    obtain⟨hb1,hb2⟩:=hrow t ht
    rcases hloc with hl|hl
    ·obtain⟨g1,g2⟩:=hvb b hl.symm
     exact e1 (h.sep t s ht g1 (by rw[e,g2]))
    ·omega
   ·simp only[if_neg e1] at ht
    simp only[if_neg e2] at hu
    simp only[if_neg e1,if_neg e2] at e
    exact h.sep t u ht hu e
def rsOf (l:List Rep):Rs ByteArray:=⟨l.length,fun i=>movB (l.getD i rep0),fun i=>(l.getD i rep0).name,fun i=>(l.getD i rep0).time⟩
def gk (l:List Rep) (k:Nat) (s:ByteArray):List Nat:=(List.range k).filter (fun i=>movB (l.getD i rep0) && decide ((l.getD i rep0).name=s))
theorem gk_zero (l:List Rep) (s:ByteArray):gk l 0 s=[]:=rfl
theorem gk_succ (l:List Rep) (k:Nat) (t:ByteArray):gk l (k+1) t=gk l k t ++ (if (movB (l.getD k rep0) && decide ((l.getD k rep0).name=t))=true then [k] else []):=by
 unfold gk
 rw[List.range_succ,List.filter_append,List.filter_cons,List.filter_nil]
theorem gk_yes {l:List Rep} {k:Nat} (h:movB (l.getD k rep0)=true):gk l (k+1)=fun t=>if t=(l.getD k rep0).name then gk l k (l.getD k rep0).name ++ [k] else gk l k t:=by
 funext t
 rw[gk_succ,h,Bool.true_and]
 by_cases e:t=(l.getD k rep0).name
 ·rw[if_pos e,if_pos (zDt e.symm),e]
 ·rw[if_neg e,zDf (Ne.symm e),if_neg (by simp),List.append_nil]
theorem gk_no {l:List Rep} {k:Nat} (h:movB (l.getD k rep0)=false):gk l (k+1)=gk l k:=by
 funext t
 rw[gk_succ,h,Bool.false_and,if_neg (by simp),List.append_nil]
theorem gk_all (l:List Rep) (s:ByteArray):gk l l.length s=(rsOf l).grp s:=rfl
theorem gk_len (l:List Rep) (k:Nat) (s:ByteArray):(gk l k s).length≤k:=by
 have:=List.length_filter_le (fun i=>movB (l.getD i rep0) && decide ((l.getD i rep0).name=s)) (List.range k)
 rw[List.length_range] at this
 exact this
def NamesAt (w:World) (m:Nat) (l:List Rep) (G:ByteArray→List Nat):Prop:=(∀ s,(rsOf l).IsG s (G s))∧∃ base n B C D,n≤30∧GrpD w m base n G B C D
theorem names_any (p:Option Addr) (cap M:Nat) (l:List Rep) (hM:l.length=M) (hM30:M≤30) (hN:∀ r∈l,r.name.size≤maxLen) (hvl:∀ r∈l,movB r=true→ValR r) (w:World) (hV:VecR w p l) :
  Calls Tryz.prog 42 #[.slice p M cap] w fun e w'=>∃ m G,e=.returned (.map (some m))∧NamesAt w' m l G∧w.heap.size≤m∧Below w.heap.size w w':=by
 have HM:=zN hM
 have HN:=zN hN
 have HVL:=zN hvl
 have HV:=zN hV
 have hmm:=@run_makeMap Tryz.prog
 clear hM hN hvl hV
 go_enter Tryz.func42,Tryz.ntmps42
 go_wp2
 clear hmm
 have h0:GrpD ((w.alloc (.cells #[.slice p M cap] 22)).alloc (.map #[] 0)) (w.heap.size+1) (w.heap.size+2) 0 (gk l 0) (fun _=>0) (fun _=>0) (.map []):=by
  have h1:=World.ownsMap_made (H:=Unit) (w.alloc (.cells #[.slice p M cap] 22)) Tryz.prog 9 rowEl
  rw[show (w.alloc (.cells #[.slice p M cap] 22)).heap.size=w.heap.size+1 by simp] at h1
  exact⟨h1,by omega,fun s=>by simp[Maps.has,gk_zero],fun s hs=>absurd (gk_zero l s) hs,fun s hs=>absurd (gk_zero l s) hs,fun s t hs=>absurd (gk_zero l s) hs⟩
 have hb0:Below w.heap.size w ((w.alloc (.cells #[.slice p M cap] 22)).alloc (.map #[] 0)):=((zBr _ _).alloc (Nat.le_refl _) _).alloc (by simp) _
 have hc0:((w.alloc (.cells #[.slice p M cap] 22)).alloc (.map #[] 0)).cell? ⟨w.heap.size,0,none⟩=some (.slice p M cap):=by
  refine (World.cell?_of_block (Below.heap_alloc _ _ _ (by simp))).trans ?_
  simp[zJ]
 have hs0:w.heap.size+2≤((w.alloc (.cells #[.slice p M cap] 22)).alloc (.map #[] 0)).heap.size:=by simp
 generalize ((w.alloc (.cells #[.slice p M cap] 22)).alloc (.map #[] 0))=w0 at *
 obtain⟨P0,hP0⟩:∃ P0,P0=w.heap.size:=⟨_,rfl⟩
 rw[←hP0] at h0 hc0 hs0 ⊢
 have HP0:=zN hP0
 clear hP0
 go_loopw [11] (fun v11 wr=>∃ (k:Nat) (B C:ByteArray→Nat) (D:DataW Unit),k≤M∧v11=.int .i64 (k:Int)∧GrpD wr (P0+1) (P0+2) k (gk l k) B C D∧wr.cell? ⟨P0,0,none⟩=some (.slice p M cap)∧Below w.heap.size w wr∧P0+2≤wr.heap.size) (fun v11 _=>M-(intOf v11).toNat)
 case atStart=>exact⟨0,_,_,_,Nat.zero_le _,rfl,h0,hc0,hb0,hs0⟩
 case round=>
  clear h0 hc0 hb0 hs0
  obtain⟨k,B,C,D,hk,rfl,hgd,hcb,hb,hsz⟩:=hrel
  by_cases hlt:k < M
  ·have hdk:decide ((k:Int) < (M:Int))=true:=zDt (by omega)
   obtain⟨bb,o,rfl,hbl,hrp⟩:=(HV.out.below hb).cell (by rw[HM.out];omega)
   have hrk:=hrp k (by rw[HM.out];exact hlt)
   have ek:l.getD k rep0=l[k]'(by rw[HM.out];exact hlt):=by rw[List.getD_eq_getElem?_getD,List.getElem?_eq_getElem (by rw[HM.out];exact hlt)];rfl
   have hnm:=HN.out _ (List.getElem_mem (by rw[HM.out];exact hlt:k < l.length))
   rw[←ek] at hrk hnm
   obtain⟨r,hr⟩:∃ r,r=l.getD k rep0:=⟨_,rfl⟩
   rw[←hr] at hrk hnm
   have HR:=zN hr
   have hrdo:=hrk.rd
   obtain⟨q,nq,cq,hrd⟩:=hrdo
   have hrv:Hid (rpv r=.agg #[.int .i64 r.kind,.string r.name,.int .i64 r.time,.int .i64 r.f,.int .i64 r.a,.int .i64 r.b,.int .i64 r.c,.slice q nq cq]):=zN (by unfold rpv;rw[hrd])
   obtain⟨c0,c1,c2,c3,c4,c5,c6,c7,hro⟩:=hrk
   rw[hrd] at c7
   have HRO:=zN hro
   have HGD:=zN hgd
   have HCB:=zN hcb
   have HBW:=zN hb
   have HNM:=zN hnm
   have hk0:(0:Int)≤(k:Int):=by omega
   have hkI:(k:Int) < (M:Int):=by omega
   clear hrp ek hr hrd hro hgd hcb hb hnm
   go_wp2_with fail
   rw[←hrv.out]
   refine (moving_any r HRO.out _).mono ?_
   rintro e w2 ⟨rfl,hb2⟩
   have hba:Below wr.heap.size wr (wr.alloc (.cells #[.int .i64 r.kind,.string r.name,.int .i64 r.time,.int .i64 r.f,.int .i64 r.a,.int .i64 r.b,.int .i64 r.c,.slice q nq cq] 35)):=(zBr _ _).alloc (Nat.le_refl _) _
   have hrb:=RptW.new wr ⟨r.kind,r.name,r.time,r.f,r.a,r.b,r.c,.slice q nq cq⟩
   have hn1:w2.cell? ⟨wr.heap.size,1,none⟩=some (.string r.name):=zP hb2 hrb.c1
   have hb3:Below wr.heap.size wr w2:=hba.trans (hb2.mono hba.size)
   have HGD2:=zN (HGD.out.bl hb3)
   have HBL:Hid (∀ s,gk l k s≠[]→B s < wr.heap.size):=zN fun s hs=>(World.ownsRow.lt (HGD.out.rows s hs) _ rfl).2
   have HCB2:=zN (zP hb3 HCB.out)
   have HBW2:=zN (HBW.out.trans (hb3.mono HBW.out.size))
   have hsz2:P0+2≤w2.heap.size:=Nat.le_trans hsz hb3.size
   have hrbl:wr.heap.size < w2.heap.size:=zM _ _ hn1
   obtain⟨rb,hrbe⟩:∃ rb,rb=wr.heap.size:=⟨_,rfl⟩
   rw[←hrbe] at hn1 hrbl hsz HBL ⊢
   clear hba hrb hb3 hb2 c0 c1 c2 c3 c4 c5 c6 c7 HGD HCB HBW hrbe
   cases hmv:movB r
   ·have HK:Hid (gk l (k+1)=gk l k):=zN (gk_no (by rw[←HR.out];exact hmv))
    go_wp2
    go_roundw
    case rel=>exact⟨k+1,B,C,D,by omega,by go_num,by
     rw[HK.out]
     have h:=HGD2.out
     exact⟨h.own.mono (Nat.le_succ k),h.mb,h.has,h.at',h.rows,h.sep⟩,HCB2.out,HBW2.out,hsz2⟩
    case measure=>simp[intOf]<;>omega
   ·have HK:Hid (gk l (k+1)=fun t=>if t=r.name then gk l k r.name ++ [k] else gk l k t):=zN (by
     have:=gk_yes (l:=l) (k:=k) (by rw[←HR.out];exact hmv)
     rw[←HR.out] at this;exact this)
    obtain⟨pg,cg,hlk,hog,hgb⟩:=HGD2.out.look HNM.out
    have hgl:=gk_len l k r.name
    obtain⟨gs,hgs⟩:∃ gs,gs=gk l k r.name:=⟨_,rfl⟩
    have HGS:=zN hgs
    rw[←hgs] at hlk hog hgb hgl
    have HLK:=zN hlk
    have HGB:=zN hgb
    clear hlk hgb hgs
    go_wp2_with fail
    have hSS:w2.drew.heap[P0+1]?=w2.heap[P0+1]?∧w2.drew.heap[rb]?=w2.heap[rb]?:=⟨rfl,rfl⟩
    refine RY.region RY.fK (fun w'=>w'.heap[P0+1]?=w2.heap[P0+1]?∧w'.heap[rb]?=w2.heap[rb]?) (by kernel_rfl) (by kernel_rfl) (hSS) (fun OPS HO QR hQR=>?_)
    repeat (refine zeY (fun R hR=>?_);(first|refine zaY (by first|rfl|(rw[HO.out];rfl)) (by simp only[zA,zB,zC,zD];rfl) ?_|refine zbY (by first|rfl|(rw[HO.out];rfl)) rfl (by first|exact .inl rfl|exact .inr rfl) (by simp only[zE,zF,zG,zH];rfl) (by simp only[zA,zB,zC,zD];rfl) ?_|refine zcY (by first|rfl|(rw[HO.out];rfl)) rfl rfl (by simp only[zE,zF,zG,zH];rfl) (by simp only[zA,zB,zC,zD];rfl) ?_|(refine zdY (by first|rfl|(rw[HO.out];rfl)) rfl rfl rfl ?_;apply zEx;apply zEx;refine⟨fun w' hS K hK=>?_,?_,?_⟩;(focus (obtain⟨hS1,hS2⟩:=hS;have s1:=(World.cell?_of_block hS2).trans hn1;have s2:=HLK.out _ hS1;go_wp2;exact hK _ _ (by simp only[zl,zG,zH];first|exact zf (by omega)|exact zg (by omega)|exact zh (by omega)|exact zi (by omega)|exact zj (by omega)|exact zk (by omega)|exact RX.bneB _|rfl) rfl));(focus (simp only[zA,zB,zC,zD];rfl))));refine hR _ _ ?_;clear hR R)
    refine zeY (fun R hR=>?_)
    refine zgY (by first|rfl|(rw[HO.out];rfl)) rfl (fun K hK=>?_)
    go_wp2
    have hal:Below w2.heap.size w2 (w2.drew.alloc (.cells #[.int .i64 (k:Int)] 3)):=(zBd (zBr _ _)).alloc (Nat.le_refl _) _
    refine⟨.inr (⟨hal.block _ (by omega),hal.block _ hrbl⟩),hR _ _ ?_⟩;clear hR R
    repeat (refine zeY (fun R hR=>?_);(first|refine zaY (by first|rfl|(rw[HO.out];rfl)) (by simp only[zA,zB,zC,zD];rfl) ?_|refine zbY (by first|rfl|(rw[HO.out];rfl)) rfl (by first|exact .inl rfl|exact .inr rfl) (by simp only[zE,zF,zG,zH];rfl) (by simp only[zA,zB,zC,zD];rfl) ?_|refine zcY (by first|rfl|(rw[HO.out];rfl)) rfl rfl (by simp only[zE,zF,zG,zH];rfl) (by simp only[zA,zB,zC,zD];rfl) ?_|(refine zdY (by first|rfl|(rw[HO.out];rfl)) rfl rfl rfl ?_;apply zEx;apply zEx;refine⟨fun w' hS K hK=>?_,?_,?_⟩;(focus (obtain⟨hS1,hS2⟩:=hS;have s1:=(World.cell?_of_block hS2).trans hn1;have s2:=HLK.out _ hS1;go_wp2;exact hK _ _ (by simp only[zl,zG,zH];first|exact zf (by omega)|exact zg (by omega)|exact zh (by omega)|exact zi (by omega)|exact zj (by omega)|exact zk (by omega)|exact RX.bneB _|rfl) rfl));(focus (simp only[zA,zB,zC,zD];rfl))));refine hR _ _ ?_;clear hR R)
    refine zeY (fun R hR=>?_)
    refine zgY (by first|rfl|(rw[HO.out];rfl)) rfl (fun K hK=>?_)
    refine RX.wp_app elIn _ _ rfl (P0+2) _ _ _ (World.ownsRow.drew (hog.alloc _)) (by simp only[zE,zF,zG,zH]) w2.heap.size _ 1 (by simp only[zE,zF,zG,zH]) (heap_alloc_new _ _) rfl (by simp[Value.oneCell']) (by omega) (by omega) (by simp;omega) (fun v3 w3 hown3 hb3 hg3 hloc3=>?_)
    obtain⟨b3,c3,rfl,hc3,_,_,_⟩:=own_cells hown3 (by omega)
    have hm3:w3.heap[P0+1]?=w2.heap[P0+1]?:=(hb3.block _ (by omega)).trans (hal.block _ (by omega))
    have hq3:∀ q,q < w2.heap.size→some q≠(Value.slice pg gs.length cg).ownBlock→w3.heap[q]?=w2.heap[q]?:=fun q hq hne=>(hg3.block q (by simp;omega) hne).trans (hal.block q hq)
    have hr3:w3.heap[rb]?=w2.heap[rb]?:=hq3 rb hrbl (fun e=>by
     obtain⟨g1,g2⟩:=HGB.out rb e.symm
     have:=HBL.out r.name (by rw[←HGS.out];exact g1)
     omega)
    have HB3:Hid (Below w.heap.size w w3):=zN (HBW2.out.trans (⟨hb3.os,hb3.tape,hb3.output,by have:=hb3.size;simp at this;omega,fun q hq=>(hb3.block q (by have:=HP0.out;omega)).trans (hal.block q (by have:=HBW2.out.size;omega))⟩))
    have hcb3:w3.cell? ⟨P0,0,none⟩=some (.slice (some ⟨bb,o,none⟩) M cap):=(World.cell?_of_block ((hb3.block P0 (by omega)).trans (hal.block P0 (by omega)))).trans HCB2.out
    have hown3':w3.ownsRow (P0+2) 3 1 (.slice (some ⟨b3,0,none⟩) (gs.length+1) c3) (gs.length+1) (qV (gs ++ [k])):=by
     unfold qV at hown3 ⊢
     rw[List.map_append];exact hown3
    have hlo3:some b3=(Value.slice pg gs.length cg).ownBlock∨w2.heap.size≤b3:=by
     rcases hloc3 with h|h
     ·exact .inl h
     ·refine .inr ?_
      injection h with h
      simp at h
      omega
    have hsz3:P0+2≤w3.heap.size:=by have:=hb3.size;simp at this;omega
    have HO3:=zN hown3'
    have HL3:=zN hlo3
    have HQ3:=zN hq3
    have HC3:=zN hcb3
    have hmo:=ownsMap_block HGD2.out.own hm3
    clear hown3 hb3 hg3 hloc3 hown3' hlo3 hq3 hcb3 hog hal hSS
    refine hK _ _ ⟨.inr (⟨hm3,hr3⟩),?_⟩;clear hK K;refine RY.at_ (by simp only[RX.put_some,RX.put_none,List.set_cons_zero,List.set_cons_succ];rfl) (hR _ _ ?_);clear hR R
    repeat (refine zeY (fun R hR=>?_);(first|refine zaY (by first|rfl|(rw[HO.out];rfl)) (by simp only[zA,zB,zC,zD];rfl) ?_|refine zbY (by first|rfl|(rw[HO.out];rfl)) rfl (by first|exact .inl rfl|exact .inr rfl) (by simp only[zE,zF,zG,zH];rfl) (by simp only[zA,zB,zC,zD];rfl) ?_|refine zcY (by first|rfl|(rw[HO.out];rfl)) rfl rfl (by simp only[zE,zF,zG,zH];rfl) (by simp only[zA,zB,zC,zD];rfl) ?_|(refine zdY (by first|rfl|(rw[HO.out];rfl)) rfl rfl rfl ?_;apply zEx;apply zEx;refine⟨fun w' hS K hK=>?_,?_,?_⟩;(focus (obtain⟨hS1,hS2⟩:=hS;have s1:=(World.cell?_of_block hS2).trans hn1;have s2:=HLK.out _ hS1;go_wp2;exact hK _ _ (by simp only[zl,zG,zH];first|exact zf (by omega)|exact zg (by omega)|exact zh (by omega)|exact zi (by omega)|exact zj (by omega)|exact zk (by omega)|exact RX.bneB _|rfl) rfl));(focus (simp only[zA,zB,zC,zD];rfl))));refine hR _ _ ?_;clear hR R)
    refine zeY (fun R hR=>?_)
    refine zgY (by first|rfl|(rw[HO.out];rfl)) rfl (fun K hK=>?_)
    refine RX.wp_mapUpdate _ _ _ 71 rfl 9 23 lawS Tryz.underlying71 rowEl (P0+1) k D (by simp only[zE,zF,zG,zH]) hmo (by unfold maxLen;omega) _ _ _ (by simp only[zE,zF,zG,zH]) (by simp only[zE,zF,zG,zH]) (keyS_of HNM.out) _ [] (rowEl_some b3 (gs.length+1) c3) (fun w4 hown4 hg4=>?_)
    have HG4:Hid (∃ B' C' D',GrpD w4 (P0+1) (P0+2) (k+1) (gk l (k+1)) B' C' D'):=zN (by
     rw[HK.out]
     obtain rfl:=HGS.out
     exact⟨_,_,_,HGD2.out.put HNM.out HGB.out HQ3.out HL3.out HO3.out hown4 hg4⟩)
    have HB4:Hid (Below w.heap.size w w4):=zN (HB3.out.grown hg4 HB3.out.size (fun j hj=>by injection hj with hj;have:=HP0.out;omega))
    have HC4:Hid (w4.cell? ⟨P0,0,none⟩=some (.slice (some ⟨bb,o,none⟩) M cap)):=zN (hg4.cell HC3.out (by simp))
    have hsz4:P0+2≤w4.heap.size:=Nat.le_trans hsz3 hg4.size
    clear hown4 hg4 hmo hm3 hr3 hn1 hrbl
    refine hK _ _ ⟨(by first|exact .inl rfl|exact .inl trivial|trivial),?_⟩;clear hK K;refine RY.at_ (by simp only[RX.put_some,RX.put_none,List.set_cons_zero,List.set_cons_succ];rfl) (hR _ _ ?_);clear hR R
    refine RY.wpL_nil (hQR _ _ ?_);clear hQR QR HO OPS
    go_wp2
    go_roundw
    case rel=>
     obtain⟨B',C',D',h⟩:=HG4.out
     exact⟨k+1,B',C',D',by omega,by go_num,h,HC4.out,HB4.out,hsz4⟩
    case measure=>simp[intOf]<;>omega
  ·obtain rfl:k=M:=by omega
   have hdk:decide ((k:Int) < (k:Int))=false:=zDf (by omega)
   have hown:=hgd.own
   have HGD:=zN hgd
   have HCB:=zN hcb
   have HBW:=zN hb
   clear hgd hcb hb
   go_wp2_with (first|(at_range;refine wpList_range_own _ rfl _ 71 rfl 9 23 lawS Tryz.underlying71 rowEl (P0+1) k D rfl hown ?_;intro w2 hrg2 hg2 hs2)|go_in)
   go_frame
   obtain⟨R,hR⟩:∃ R,R=wr.heap.size:=⟨_,rfl⟩
   have hbr:Below wr.heap.size wr w2:=⟨hg2.os,hg2.tape,hg2.output,hg2.size,fun q hq=>hg2.block q hq (by simp)⟩
   have HGR:Hid (∀ s,gk l k s≠[]→P0+2≤B s∧B s < R):=zN fun s hs=>by rw[hR];exact World.ownsRow.lt (HGD.out.rows s hs) _ rfl
   have HG2:=zN (HGD.out.bl hbr)
   have HC2:=zN (zP hbr HCB.out)
   have HB2:=zN (HBW.out.trans (hbr.mono HBW.out.size))
   have hR2:R < w2.heap.size:=by omega
   have hPR:P0+2≤R:=by omega
   rw[←hR] at hrg2 ⊢
   have HRG:=zN hrg2
   clear hown hbr hrg2 hg2 hs2 hR HGD HCB HBW
   go_loopw [7] (fun _ wx=>∃ (T:ByteArray→List Nat) (left:Lit→Bool) (cnt:Nat),wx.ranges Tryz.prog 9 rowEl (P0+1) R k D left cnt∧Hid (∀ s,gk l k s≠[]→(T s).Perm (gk l k s)∧wx.ownsRow (P0+2) 3 1 (.slice (some ⟨B s,0,none⟩) (T s).length (C s)) (T s).length (qV (T s)))∧Hid (∀ s,gk l k s≠[]→left (keyS s)=false→(T s).Pairwise (fun i j=>(l.getD i rep0).time≤(l.getD j rep0).time))∧wx.cell? ⟨P0,0,none⟩=some (.slice p k cap)∧Below w.heap.size w wx∧R < wx.heap.size) (fun _ wx=>wx.rangeLeft (P0+1) R)
   case atStart=>exact⟨gk l k,_,_,HRG.out,zN fun s hs=>⟨List.Perm.refl _,HG2.out.rows s hs⟩,zN (fun s hs hl=>by rw[(HG2.out.has s).2 hs] at hl;cases hl),HC2.out,HB2.out,hR2⟩
   case round=>
    clear HRG HC2 HB2 hR2
    obtain⟨T,left,cnt,hrg,HT,HS,hcb,hb,hRl⟩:=hrel
    have HRG:=zN hrg
    go_wp2_with (first|(at_next;refine wpList_next_ranges _ rfl _ rfl 9 lawS rowEl Value.string (fun v:Value=>v) (fun key kl h=>by obtain⟨s,h1,_⟩:=keyS_inv h;exact⟨s,h1⟩) (fun v y _=>⟨v,rfl⟩) (P0+1) R k D left cnt rfl hrg ?_ ?_)|go_in)
    ·intro hc0 hl0
     have HRES:Hid (NamesAt wr (P0+1) l (fun s=>if gk l k s=[] then [] else T s)):=zN (by
      have hgrp:∀ s,(rsOf l).grp s=gk l k s:=fun s=>by rw[←gk_all,HM.out]
      have hne:∀ s,(if gk l k s=[] then [] else T s)≠[]↔gk l k s≠[]:=fun s=>by
       by_cases hg:gk l k s=[]
       ·rw[if_pos hg];exact⟨fun h=>absurd rfl h,fun h=>absurd hg h⟩
       ·rw[if_neg hg]
        have:=(HT.out s hg).1.length_eq
        refine⟨fun _=>hg,fun _ h=>hg ?_⟩
        rw[h] at this
        exact List.length_eq_zero_iff.1 this.symm
      refine⟨fun s=>⟨?_,?_⟩,P0+2,k,B,C,D,hM30,hrg.owns,by omega,fun s=>(HG2.out.has s).trans (hne s).symm,fun s hs z=>?_,fun s hs=>?_,fun s t hs ht=>HG2.out.sep s t ((hne s).1 hs) ((hne t).1 ht)⟩
      ·rw[hgrp]
       dsimp only
       by_cases hg:gk l k s=[]
       ·rw[if_pos hg,hg]
       ·rw[if_neg hg];exact (HT.out s hg).1
      ·dsimp only
       by_cases hg:gk l k s=[]
       ·rw[if_pos hg];exact List.Pairwise.nil
       ·rw[if_neg hg];exact HS.out s hg (hl0 _)
      ·have hg:=(hne s).1 hs
       try dsimp only
       rw[if_neg hg,HG2.out.at' s hg,(HT.out s hg).1.length_eq]
      ·have hg:=(hne s).1 hs
       simp only[if_neg hg]
       exact (HT.out s hg).2)
     have HB:=zN hb
     clear hcb hb hrg hc0 hl0
     go_wp2
     go_ret
     exact⟨P0+1,_,rfl,HRES.out,by have:=HP0.out;omega,HB.out⟩
    ·intro x c kl y ps w3 cnt3 hkey hlk hv hat hrg3 hlt3 hg3 hs3 hen
     obtain⟨s,hs1,rfl,hsz4⟩:=keyS_inv hkey
     obtain rfl:x=s:=by injection hs1
     clear hs1 hkey
     have hhx:Maps.has D (keyS x)=true:=by
      cases hh:Maps.has D (keyS x) with
      |true=>rfl
      |false=>
       have h1:=hat .nil
       have h2:=hat (.map [])
       rw[Maps.atKey_of_not_has hh] at h1 h2
       rw[←h1] at h2
       cases h2
     have hgx:gk l k x≠[]:=(HG2.out.has x).1 hhx
     have hv2:rowEl c=some (.slice [.lit (.int .i64 (B x)),.lit (.int .i64 (gk l k x).length),.lit (.int .i64 (C x))] [],ps):=by
      rw[hv,←HG2.out.at' x hgx .nil,hat .nil]
     obtain rfl:=rowEl_inv hv2
     obtain⟨hpx,hox⟩:=HT.out x hgx
     obtain⟨hbx1,hbx2⟩:=HGR.out x hgx
     have hlx:(gk l k x).length=(T x).length:=hpx.length_eq.symm
     rw[hlx] at hen ⊢
     have hox3:w3.ownsRow (P0+2) 3 1 (.slice (some ⟨B x,0,none⟩) (T x).length (C x)) (T x).length (qV (T x)):=hox.kept hg3 (.inr (fun e=>by
      have e2:B x=R:=by injection e
      omega))
     have hb3:Below w.heap.size w w3:=hb.grown hg3 hb.size (fun j hj=>by injection hj with hj;have:=HP0.out;omega)
     have hcb3:w3.cell? ⟨P0,0,none⟩=some (.slice p k cap):=hg3.cell hcb (by simp;omega)
     have hV3:=HV.out.below hb3
     have hmem:∀ i∈T x,i < l.length∧movB (l.getD i rep0)=true:=fun i hi=>by
      have h1:=hpx.mem_iff.1 hi
      rw[←HM.out,gk_all] at h1
      obtain⟨h2,h3,_⟩:=Rs.mem_grp.1 h1
      exact⟨h2,h3⟩
     have hTx0:T x≠[]:=fun e=>hgx (by rw[e] at hpx;exact hpx.symm.eq_nil)
     have hvl':∀ i,i < l.length→movB (l.getD i rep0)=true→ValR (l.getD i rep0):=fun i hi hm=>by
      have e:l.getD i rep0=l[i]:=by rw[List.getD_eq_getElem?_getD,List.getElem?_eq_getElem hi];rfl
      rw[e] at hm ⊢
      exact HVL.out _ (List.getElem_mem hi) hm
     have hTl:(T x).length≤30:=by have:=gk_len l k x;omega
     have hpbx:∀ a,p=some a→0 < k→a.block≠B x:=fun a ha h0=>by
      obtain⟨b',o',e',hl',_⟩:=HV.out.cell (by rw[HM.out];exact h0)
      rw[ha] at e'
      have e2:a=⟨b',o',none⟩:=by injection e'
      have:=HP0.out
      rw[e2];show b'≠B x;omega
     have HS4:=zN (sortNames_any (P0+2) P0 k cap (B x) (C x) p l (T x) HM.out hM30 hTx0 hmem hvl' hTl w3 hcb3 (by omega) hV3 hpbx hox3)
     have HB3:=zN hb3
     have HG3:=zN hg3
     have hR3:R < w3.heap.size:=by omega
     have HPX:=zN hpx
     clear hox hox3 hb3 hV3 hmem hTx0 hvl' hpbx hg3 hv hat hv2 hlk hhx hrg hb hcb
     go_wp2_with fail
     refine HS4.out.mono ?_
     rintro e w4 ⟨rfl,hg4,T',hp4,hst4,ho4⟩
     have hrg4:=hrg3.kept hg4 (by simp;omega) (by simp;omega)
     have HREL:Hid (∀ s,gk l k s≠[]→(if s=x then T' else T s).Perm (gk l k s)∧w4.ownsRow (P0+2) 3 1 (.slice (some ⟨B s,0,none⟩) (if s=x then T' else T s).length (C s)) (if s=x then T' else T s).length (qV (if s=x then T' else T s))):=zN fun s hs=>by
      by_cases e:s=x
      ·subst e
       simp only[if_true]
       exact⟨hp4.trans HPX.out,ho4⟩
      ·simp only[if_neg e]
       obtain⟨h1,h2⟩:=HT.out s hs
       have hbs:=HGR.out s hs
       refine⟨h1,(h2.kept HG3.out (.inr (fun e'=>?_))).kept hg4 (.inr (fun e'=>?_))⟩
       ·have e2:B s=R:=by injection e'
        omega
       ·have e2:B s=B x:=by injection e'
        exact e (HG2.out.sep s x hs hgx e2)
     have HSRT:Hid (∀ s,gk l k s≠[]→(left (keyS s) && !(keyS s).sameKey (keyS x))=false→(if s=x then T' else T s).Pairwise (fun i j=>(l.getD i rep0).time≤(l.getD j rep0).time)):=zN fun s hs hl=>by
      by_cases e:s=x
      ·subst e
       simp only[if_true]
       exact hst4
      ·simp only[if_neg e]
       refine HS.out s hs ?_
       cases h1:left (keyS s) with
       |false=>rfl
       |true=>
        rw[h1,Bool.true_and,Bool.not_eq_false'] at hl
        exact absurd (keyS_inj (WideAt.sameKey_eq hl)) e
     have HCB4:Hid (w4.cell? ⟨P0,0,none⟩=some (.slice p k cap)):=zN (hg4.cell hcb3 (by simp;omega))
     have HB4:Hid (Below w.heap.size w w4):=zN (HB3.out.grown hg4 HB3.out.size (fun j hj=>by injection hj with hj;have:=HP0.out;omega))
     have hR4:R < w4.heap.size:=Nat.lt_of_lt_of_le hR3 hg4.size
     have HRG4:=zN hrg4
     have hms:w4.rangeLeft (P0+1) R < wr.rangeLeft (P0+1) R:=by rw[hrg4.left_eq,HRG.out.left_eq];exact hlt3
     clear hg4 hp4 hst4 ho4 hrg4 hrg3 hen HG3 HS4 hcb3
     go_wp2
     go_roundw
     case rel=>exact⟨fun s=>if s=x then T' else T s,_,cnt3,HRG4.out,HREL,HSRT,HCB4.out,HB4.out,hR4⟩
     case measure=>exact hms
end Go.Proofs.YtbomggfklfbnkaaGreatDoor
namespace Go.Chain
theorem lex_anti:∀ {s t:List Nat},lexLe s t→lexLe t s→s=t
 |[],[],_,_=>rfl
 |[],b :: t,_,h=>absurd h (by simp[lexLe])
 |a :: s,[],h,_=>absurd h (by simp[lexLe])
 |a :: s,b :: t,h1,h2=>by
  simp only[lexLe] at h1 h2
  rcases h1 with h1|⟨rfl,h1⟩
  ·rcases h2 with h2|⟨h2,_⟩<;>omega
  ·rcases h2 with h2|⟨_,h2⟩
   ·omega
   ·rw[lex_anti h1 h2]
theorem Valid.congr {P Q:Nat→Nat→Bool} {n:Nat} (h:∀ i k,i < n→k < n→P i k=Q i k):∀ s,Valid P n s→Valid Q n s
 |[],_=>trivial
 |[i],hs=>⟨hs.1,trivial,trivial⟩
 |i :: k :: s,hs=>⟨hs.1,⟨hs.2.1.1,by rw[←h i k hs.1 hs.2.2.1];exact hs.2.1.2⟩,Valid.congr h (k :: s) hs.2.2⟩
theorem chain_congr {P Q:Nat→Nat→Bool} {n:Nat} (h:∀ i k,i < n→k < n→P i k=Q i k):chainP P n=chainP Q n:=by
 obtain⟨p1,p2,p3⟩:=chain_facts P n
 obtain⟨q1,q2,q3⟩:=chain_facts Q n
 have h1:=Valid.congr h _ p1
 have h2:=Valid.congr (P:=Q) (Q:=P) (fun i k hi hk=>(h i k hi hk).symm) _ q1
 have e1:=q2 _ h1
 have e2:=p2 _ h2
 exact lex_anti (p3 _ h2 (by omega)) (q3 _ h1 (by omega))
end Go.Chain
namespace Go.Proofs.YtbomggfklfbnkaaGreatDoor
open Go.RowKit Go.Grid Go.Maps Go.Sort Go.Shelf Go.Chain
def natI (L:List Nat):List Int:=L.map (fun i:Nat=>(i:Int))
theorem natI_len (L:List Nat):(natI L).length=L.length:=by simp[natI]
theorem QRow.rd {w:World} {base:Nat} {v:Value} {L:List Nat} (h:QRow w base v L):RdI w v (natI L):=by
 rcases Nat.eq_zero_or_pos L.length with h0|h0
 ·obtain⟨p,cap,rfl,hc⟩:=own_slice h
  obtain rfl:=List.length_eq_zero_iff.1 h0
  exact⟨p,cap,rfl,hc,0,0,fun h=>absurd h (by simp[natI]),fun j hj=>absurd hj (by simp[natI])⟩
 ·obtain⟨g,cap,rfl,hc,_,_,hcell⟩:=own_cells h h0
  refine⟨_,cap,by rw[natI_len],by rw[natI_len];exact hc,g,0,fun _=>rfl,fun j hj=>?_⟩
  rw[natI_len] at hj
  rw[Nat.zero_add,hcell j hj]
  unfold qV natI
  rw[List.getElem?_map,List.getElem?_eq_getElem hj]
  show some (Value.int .i64 (L[j]:Int))=some (Value.int .i64 ((L.map (fun i:Nat=>(i:Int)))[j]'(by simpa using hj)))
  rw[List.getElem_map]
theorem QRow.ints {w:World} {base:Nat} {v:Value} {L:List Nat} (h:QRow w base v L):∃ p cap b,v=.slice p L.length cap∧L.length≤cap∧base≤b∧(0 < L.length→p=some ⟨b,0,none⟩)∧IntsAt w b 0 (natI L):=by
 rcases h.2 with ⟨h1,h2⟩|⟨g,cap,cur,h1,h2,h3,h4,h5,h6,h7⟩
 ·obtain rfl:=List.length_eq_zero_iff.1 h2
  exact⟨none,0,base,h1,Nat.le_refl _,Nat.le_refl _,fun h=>absurd h (by simp),fun j hj=>absurd hj (by simp[natI])⟩
 ·refine⟨_,cap,g,h1,h4,h2,fun _=>rfl,fun j hj=>?_⟩
  rw[natI_len] at hj
  subst h1
  have h8:=World.ownsRow.cellAt h j (by omega)
  rw[Nat.zero_add]
  refine⟨?_,by simp[World.frozen?,h3]⟩
  rw[h8]
  unfold qV natI
  rw[List.getElem?_map,List.getElem?_eq_getElem hj]
  show some (Value.int .i64 (L[j]:Int))=some (Value.int .i64 ((L.map (fun i:Nat=>(i:Int)))[j]'(by simpa using hj)))
  rw[List.getElem_map]
theorem natI_pair {L:List Nat} (h:L.Pairwise (· < ·)):(natI L).Pairwise (·≤·):=by
 unfold natI
 rw[List.pairwise_map]
 exact h.imp (fun h=>by omega)
theorem sorted_of {zs ys:List Int} (h:zs.Perm ys) (hy:ys.Pairwise (·≤·)):sorted zs=ys:=
 ((sorted_perm zs).trans h).eq_of_pairwise (fun a b _ _ h1 h2=>by omega) (sorted_pair zs) hy
theorem ranges_block {w w':World} {k:TypeId} {b r n:Nat} {D:DataW Unit} {left:Lit→Bool} {cnt:Nat} (h:w.ranges Tryz.prog k rowEl b r n D left cnt) (hb:w'.heap[b]?=w.heap[b]?) (hr:w'.heap[r]?=w.heap[r]?):w'.ranges Tryz.prog k rowEl b r n D left cnt:=by
 obtain⟨es,clock,since,seen,c0,h1,h2,h3,h4,h5,rest⟩:=h
 exact⟨es,clock,since,seen,c0,hb.trans h1,h2,h3,h4,hr.trans h5,rest⟩
theorem has_of_at {D:DataW Unit} {kl:Lit} {y:DataW Unit} (hat:∀ z,D.atKey kl z=y):Maps.has D kl=true:=by
 cases hh:Maps.has D kl with
 |true=>rfl
 |false=>
  have h1:=hat .nil
  have h2:=hat (.map [])
  rw[Maps.atKey_of_not_has hh] at h1 h2
  rw[←h1] at h2
  cases h2
def MovV (l:List Rep):Prop:=∀ r∈l,movB r=true→ValR r
instance (l:List Rep):Decidable (MovV l):=by unfold MovV;infer_instance
theorem any_badM {l:List Rep}:l.any (fun r=>movB r && !decide (ValR r))=!decide (MovV l):=by
 rw[Bool.eq_iff_iff,List.any_eq_true]
 constructor
 ·rintro⟨r,hr,h⟩
  rw[Bool.and_eq_true,Bool.not_eq_true',decide_eq_false_iff_not] at h
  rw[Bool.not_eq_true',decide_eq_false_iff_not]
  exact fun ha=>h.2 (ha r hr h.1)
 ·intro h
  rw[Bool.not_eq_true',decide_eq_false_iff_not] at h
  refine Classical.byContradiction fun hn=>h fun r hr hm=>?_
  refine Classical.byContradiction fun hv=>hn ⟨r,hr,?_⟩
  rw[Bool.and_eq_true,Bool.not_eq_true',decide_eq_false_iff_not];exact⟨hm,hv⟩
open Classical in
noncomputable def suE (n:Int) (l:List Rep):Int:=if hopB n=true∧MovV l then (if (rsOf l).Dup then 5 else 0) else 1
noncomputable def suL (n:Int) (l:List Rep):List Nat:=if suE n l=0 then (rsOf l).susp (relP n l) else []
theorem suE_no {n:Int} {l:List Rep} (h:¬ (hopB n=true∧MovV l)):suE n l=1∧suL n l=[]:=by
 have e:suE n l=1:=if_neg h
 exact⟨e,by unfold suL;rw[e];rfl⟩
theorem suE_dup {n:Int} {l:List Rep} (h:hopB n=true∧MovV l) (h2:(rsOf l).Dup):suE n l=5∧suL n l=[]:=by
 have e:suE n l=5:=by unfold suE;rw[if_pos h,if_pos h2]
 exact⟨e,by unfold suL;rw[e];rfl⟩
theorem suE_ok {n:Int} {l:List Rep} (h:hopB n=true∧MovV l) (h2:¬ (rsOf l).Dup):suE n l=0∧suL n l=(rsOf l).susp (relP n l):=by
 have e:suE n l=0:=by unfold suE;rw[if_pos h,if_neg h2]
 exact⟨e,by unfold suL;rw[e];rfl⟩
theorem getD_rep {l:List Rep} {i:Nat} (h:i < l.length):l.getD i rep0=l[i]:=by rw[List.getD_eq_getElem?_getD,List.getElem?_eq_getElem h];rfl
theorem getD_nat {l:List Nat} {i:Nat} (h:i < l.length):l.getD i 0=l[i]:=by rw[List.getD_eq_getElem?_getD,List.getElem?_eq_getElem h];rfl
def partL (l:List Rep) (T:List Nat):List Rep:=T.map (fun i=>l.getD i rep0)
theorem part_chain (n:Int) (l:List Rep) (T:List Nat):chainP (relP n (partL l T)) T.length=chainP (fun a b=>relP n l (T.getD a 0) (T.getD b 0)) T.length:=by
 refine chain_congr fun i k hi hk=>?_
 have e:∀ j,j < T.length→(partL l T).getD j rep0=l.getD (T.getD j 0) rep0:=fun j hj=>by
  unfold partL
  rw[List.getD_eq_getElem?_getD,List.getElem?_map,List.getElem?_eq_getElem hj,getD_nat hj];rfl
 unfold relP
 rw[e i hi,e k hk]
structure OutOk (n:Int) (l:List Rep) (G:ByteArray→List Nat) (left:Lit→Bool) (out:List Nat):Prop where
 nd:out.Nodup
 mem:∀ i,i∈out↔∃ s,G s≠[]∧left (keyS s)=false∧i∈badL (relP n l) (G s)
theorem OutOk.start {n:Int} {l:List Rep} {G:ByteArray→List Nat} {left:Lit→Bool} (h:∀ s,G s≠[]→left (keyS s)=true):OutOk n l G left []:=
 ⟨List.nodup_nil,fun i=>⟨fun h=>(by cases h),fun ⟨s,h1,h2,_⟩=>by rw[h s h1] at h2;cases h2⟩⟩
theorem OutOk.step {n:Int} {l:List Rep} {G:ByteArray→List Nat} {left:Lit→Bool} {out:List Nat} (h:OutOk n l G left out) (hG:∀ s,(rsOf l).IsG s (G s)) {x:ByteArray} (hx:G x≠[]) (hxs:x.size≤maxLen) (hl:left (keyS x)=true) :
  OutOk n l G (fun z=>left z && !z.sameKey (keyS x)) (out ++ badL (relP n l) (G x)):=by
 have hkey:∀ s,left (keyS s)=true→(left (keyS s) && !(keyS s).sameKey (keyS x))=false→s=x:=fun s h1 h2=>by
  rw[h1,Bool.true_and,Bool.not_eq_false'] at h2
  exact keyS_inj (WideAt.sameKey_eq h2)
 refine⟨List.nodup_append.2 ⟨h.nd,badL_nodup (hG x).nodup,fun a ha b hb e=>?_⟩,fun i=>?_⟩
 ·subst e
  obtain⟨s,h1,h2,h3⟩:=(h.mem a).1 ha
  obtain⟨_,_,e1⟩:=(hG s).mem.1 (badL_sub h3)
  obtain⟨_,_,e2⟩:=(hG x).mem.1 (badL_sub hb)
  have:s=x:=e1.symm.trans e2
  rw[this,hl] at h2;cases h2
 ·rw[List.mem_append,h.mem i]
  constructor
  ·rintro (⟨s,h1,h2,h3⟩|h1)
   ·exact⟨s,h1,by rw[h2];rfl,h3⟩
   ·refine⟨x,hx,?_,h1⟩
    rw[WideAt.sameKey_self (lawS.key (keyS_of hxs))]
    simp
  ·rintro⟨s,h1,h2,h3⟩
   cases hs:left (keyS s) with
   |false=>exact .inl ⟨s,h1,hs,h3⟩
   |true=>
    obtain rfl:=hkey s hs h2
    exact .inr h3
theorem OutOk.done {n:Int} {l:List Rep} {G:ByteArray→List Nat} {left:Lit→Bool} {out:List Nat} (h:OutOk n l G left out) (hG:∀ s,(rsOf l).IsG s (G s)) (hd:¬ (rsOf l).Dup) (hl:∀ kl,left kl=false):out.Perm ((rsOf l).susp (relP n l)):=by
 refine Rs.susp_perm h.nd fun i=>?_
 rw[h.mem i,Rs.mem_susp]
 constructor
 ·rintro⟨s,h1,_,h3⟩
  obtain⟨e1,e2,e3⟩:=(hG s).mem.1 (badL_sub h3)
  refine⟨e1,e2,?_⟩
  rw[e3,←(hG s).unique hd];exact h3
 ·rintro⟨h1,h2,h3⟩
  rw[←(hG _).unique hd] at h3
  refine⟨_,fun e=>?_,hl _,h3⟩
  have:=badL_sub h3
  rw[e] at this;cases this
end Go.Proofs.YtbomggfklfbnkaaGreatDoor
