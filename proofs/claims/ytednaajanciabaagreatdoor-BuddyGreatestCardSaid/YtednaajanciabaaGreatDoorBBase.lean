import Derived.Test.YtednaajanciabaaGreatDoorKRpts
import Derived.Test.YtednaajanciabaaGreatDoorFromL
import Derived.Test.YtednaajanciabaaGreatDoorKRegion
import Derived.Deep.AppendSrc
set_option maxRecDepth 100000
set_option maxHeartbeats 8000000
set_option linter.unusedSimpArgs false
set_option linter.unusedVariables false
namespace Go.Proofs.YtednaajanciabaaGreatDoor
open Go.RowKit Go.Grid
def rep0:Rep:=⟨0,⟨#[]⟩,0,0,0,0,0,.slice none 0 0⟩
theorem QRow.nil (w:World) (base:Nat):QRow w base (.slice none 0 0) []:=World.ownsRow_nil _ _ _ _
theorem FRow.oth {w:World} {b N D i:Nat} {f:Nat→Int} {v:Value} (h:FRow w b N f) (hne:b≠D):FRow (w.setCell ⟨D,i,none⟩ v) b N f:=h.kept (Below.heap_setCell _ _ _ b hne)
def natI (L:List Nat):List Int:=L.map (fun i:Nat=>(i:Int))
theorem natI_len (L:List Nat):(natI L).length=L.length:=by simp[natI]
theorem QRow.rd {w:World} {base:Nat} {v:Value} {L:List Nat} (h:QRow w base v L):RdI w v (natI L):=by
 rcases Nat.eq_zero_or_pos L.length with h0|h0
 ·obtain⟨p,cap,rfl,hc⟩:=own_slice h
  obtain rfl:=List.length_eq_zero_iff.1 h0
  exact⟨p,cap,rfl,hc,0,0,fun h=>absurd h (by simp[natI]),fun j hj=>absurd hj (by simp[natI])⟩
 ·obtain⟨g,cap,rfl,hc,_,_,hcell⟩:=own_cells h h0
  refine⟨_,cap,by rw[natI_len],by rw[natI_len];exact hc,g,0,fun _=>rfl,fun j hj=>?_⟩
  rw[natI_len] at hj
  rw[Nat.zero_add,hcell j hj]
  unfold qV natI
  rw[List.getElem?_map,List.getElem?_eq_getElem hj]
  show some (Value.int .i64 (L[j]:Int))=some (Value.int .i64 ((L.map (fun i:Nat=>(i:Int)))[j]'(by simpa using hj)))
  rw[List.getElem_map]
theorem pick_any (w:World) (g b n i N:Nat) (zs:List Int) (m cap:Nat) (hm:zs.length=m) (h0:0 < m) (h1:m≤1000) (h:SrcAt w g b n i) (hz:∀ j (h:j < zs.length),w.cell? ⟨N,j,none⟩=some (.int .i64 zs[j])) (hN:N≠g) :
  Calls Tryz.prog 34 #[.pointer (some ⟨g,0,none⟩),.slice (some ⟨N,0,none⟩) m cap] w fun e w'=>∃ x:Int,e=.returned (.int .i64 x)∧x∈zs∧w.grownBy w' (some g)∧∃ j,SrcAt w' g b n j:=by
 go_enter Tryz.func34,Tryz.ntmps34
 go_wp2_with fail
 refine (srcN_any w g b n i m h (by omega) (by omega)).mono ?_
 rintro e w1 ⟨x,rfl,hx0,hx1,hg1,hS⟩
 obtain⟨k,rfl⟩:=Int.eq_ofNat_of_zero_le hx0
 have hk:k < zs.length:=by omega
 have hS1:=zN hS
 have hG1:=zN hg1
 have kk:=hg1.cell (hz k hk) (by simpa using hN)
 have HX:=zN (List.getElem_mem hk)
 generalize zs[k]=z at kk HX
 clear hS hg1 h hz hm hk
 go_wp2
 go_ret
 exact⟨z,rfl,HX.out,hG1.out,hS1.out⟩
theorem ins_perm {D:List Nat} {i k:Nat} (h:D.Perm (List.range i)):(D.take k ++ ([i] ++ D.drop k)).Perm (List.range (i+1)):=by
 rw[List.range_succ]
 have h1:(D.take k ++ ([i] ++ D.drop k)).Perm (i :: (D.take k ++ D.drop k)):=List.perm_middle
 rw[List.take_append_drop] at h1
 exact h1.trans ((List.Perm.cons i h).trans (List.perm_append_singleton i (List.range i)).symm)
theorem QRow.ins {w:World} {base base' k i:Nat} {v:Value} {D:List Nat} (hk:k≤D.length) (h:w.ownsRow base' 3 1 v (k+(1+(D.length-k))) (qV (D.take k) ++ (#[Value.int .i64 (i:Int)].toList ++ qV (D.drop k)))) (hb:base≤base'):QRow w base v (D.take k ++ ([i] ++ D.drop k)):=by
 unfold QRow
 have e:(D.take k ++ ([i] ++ D.drop k)).length=k+(1+(D.length-k)):=by simp;omega
 rw[e]
 have e2:qV (D.take k ++ ([i] ++ D.drop k))=qV (D.take k) ++ (#[Value.int .i64 (i:Int)].toList ++ qV (D.drop k)):=by simp[qV]
 rw[e2]
 exact own_mono h hb
theorem VecR.news {w:World} {p:Option Addr} {L:List Rep} {m:Nat} (h:VecR w p L) (hm:L.length=m):0 < m→∃ ad,p=some ad∧∀ j u,(L.flatMap rpc)[j]?=some u→w.cell? (ad.add j)=some u:=by
 intro h0
 obtain⟨b,o,h1,h2⟩:=h
 refine⟨_,h1 (by omega),fun j u hj=>?_⟩
 have hlt:j < L.length*8:=by
  rw[←rps_len]
  exact (List.getElem?_eq_some_iff.1 hj).1
 have e:j=j / 8*8+j % 8:=by omega
 have hk:j / 8 < L.length:=by omega
 have h8:j % 8 < 8:=by omega
 rw[e,rps_get L _ hk _ h8] at hj
 rw[Addr.add_lit,e]
 have hr:=h2 _ hk
 generalize j / 8=k at *
 generalize j % 8=c at *
 rw[←zQ]
 match c,h8 with
 |0,_=>rw[←hj];exact hr.c0
 |1,_=>rw[←hj];exact hr.c1
 |2,_=>rw[←hj];exact hr.c2
 |3,_=>rw[←hj];exact hr.c3
 |4,_=>rw[←hj];exact hr.c4
 |5,_=>rw[←hj];exact hr.c5
 |6,_=>rw[←hj];exact hr.c6
 |7,_=>rw[←hj];exact hr.c7
theorem own_set {w:World} {base b n cap size:Nat} {e:TypeId} {xs:List Value} (h:w.ownsRow base e size (.slice (some ⟨b,0,none⟩) n cap) n xs) (k:Nat) (u:Value) (hk:k < n*size):(w.setCell ⟨b,k,none⟩ u).ownsRow base e size (.slice (some ⟨b,0,none⟩) n cap) n (xs.set k u):=by
 refine⟨by rw[List.length_set];exact h.1,?_⟩
 rcases h.2 with ⟨h1,_⟩|⟨g,cap',cur,h1,h2,h3,h4,h5,h6,h7⟩
 ·cases h1
 ·injection h1 with e1 _ e2
  injection e1 with e1
  injection e1 with e1
  subst e1 e2
  refine .inr ⟨b,cap,cur.setIfInBounds k u,rfl,h2,?_,h4,h5,by simpa using h6,?_⟩
  ·simp[World.setCell,Array.getElem?_modify,h3]
  ·rw[←h7,Array.toList_setIfInBounds,List.take_set]
theorem rps_set {u:Value} {c:Nat} {r':Rep} (hc:c < 8):∀ (L:List Rep) (i:Nat) (hi:i < L.length),rpc r'=(rpc L[i]).set c u→(L.flatMap rpc).set (i*8+c) u=(L.set i r').flatMap rpc
 |[],i,hi,_=>absurd hi (by simp)
 |p :: L,0,_,h=>by
  have h':rpc r'=(rpc p).set c u:=h
  rw[List.set_cons_zero,List.flatMap_cons,List.flatMap_cons,h',List.set_append_left _ _ (by simp[rpc];omega),Nat.zero_mul,Nat.zero_add]
 |p :: L,i+1,hi,h=>by
  rw[List.set_cons_succ,List.flatMap_cons,List.flatMap_cons,←rps_set hc L i (by simpa using hi) h,List.set_append_right _ _ (by simp[rpc];omega)]
  congr 2
  simp[rpc];omega
theorem RepRow.put {w:World} {base b n cap:Nat} {L:List Rep} (h:RepRow w base (.slice (some ⟨b,0,none⟩) n cap) L) (hn:L.length=n) {i c:Nat} {u:Value} {r':Rep} (hi:i < L.length) (hc:c < 8) (hr:rpc r'=(rpc L[i]).set c u):RepRow (w.setCell ⟨b,i*8+c,none⟩ u) base (.slice (some ⟨b,0,none⟩) n cap) (L.set i r'):=by
 unfold RepRow at h ⊢
 subst hn
 rw[List.length_set,←rps_set hc L i hi hr]
 exact own_set h _ u (by omega)
theorem VecR.gr {w w':World} {p:Option Addr} {L:List Rep} {g:Nat} (h:VecR w p L) (hg:w.grownBy w' (some g)) (hne:∀ a,p=some a→0 < L.length→a.block≠g):VecR w' p L:=by
 rcases Nat.eq_zero_or_pos L.length with h0|h0
 ·obtain rfl:=List.length_eq_zero_iff.1 h0
  exact VecR.nil _ _
 ·obtain⟨b,o,h1,h2⟩:=h
  have hb:=hne _ (h1 h0) h0
  exact⟨b,o,h1,fun k hk=>(h2 k hk).of_block (hg.block b (h2 k hk).lt (fun e=>hb (by injection e)))⟩
def BRow (w:World) (b M:Nat) (f:Nat→Bool):Prop:=w.rowIs b 4 M (fun j=>.bool (f j))
theorem BRow.set {w:World} {b M:Nat} {f:Nat→Bool} (h:BRow w b M f) (i:Nat) (x:Bool):BRow (w.setCell ⟨b,i,none⟩ (.bool x)) b M (fun j=>if j=i then x else f j):=
 (World.rowIs.set h i (.bool x)).congr (fun j _=>by by_cases e:j=i<;>simp[e])
theorem BRow.congr {w:World} {b M:Nat} {f g:Nat→Bool} (h:BRow w b M f) (e:∀ j,j < M→f j=g j):BRow w b M g:=World.rowIs.congr h (fun j hj=>by rw[e j hj])
theorem BRow.of_block {w w':World} {b M:Nat} {f:Nat→Bool} (h:BRow w b M f) (e:w'.heap[b]?=w.heap[b]?):BRow w' b M f:=World.rowIs.of_block h e
theorem BRow.cell {w:World} {b M:Nat} {f:Nat→Bool} (h:BRow w b M f) {i:Nat} (hi:i < M):w.cell? ⟨b,i,none⟩=some (.bool (f i)):=World.rowIs.cell h hi
theorem BRow.lt {w:World} {b M:Nat} {f:Nat→Bool} (h:BRow w b M f):b < w.heap.size:=World.rowIs.lt h
theorem BRow.below {w w':World} {b M:Nat} {f:Nat→Bool} (h:BRow w b M f) (hb:Below w.heap.size w w'):BRow w' b M f:=h.of_block (hb.block _ h.lt)
theorem ba_beq (a b:ByteArray):(a == b)=true↔a=b:=by
 obtain⟨a⟩:=a
 obtain⟨b⟩:=b
 rw[ByteArray.mk.injEq]
 exact (beq_iff_eq (a:=a) (b:=b))
theorem str_ne {a b:ByteArray} (h:a≠b):(a == b)=false∧(a.toList == b.toList)=false:=by
 constructor
 ·rw[Bool.eq_false_iff]
  exact fun e=>h ((ba_beq a b).1 e)
 ·rw[beq_eq_false_iff_ne,ne_eq,ByteArray.toList_eq,ByteArray.toList_eq]
  exact fun e=>h (by
   obtain⟨x⟩:=a
   obtain⟨y⟩:=b
   have e2:x=y:=by simpa using e
   rw[e2])
theorem str_eq {a b:ByteArray} (h:a=b):(a == b)=true∧(a.toList == b.toList)=true:=by
 subst h
 exact⟨(ba_beq a a).2 rfl,by simp⟩
def NRow (w:World) (b M:Nat) (f:Nat→Int):Prop:=w.rowIs b 3 M (fun j=>.int .i64 (f j))
theorem NRow.set {w:World} {b M:Nat} {f:Nat→Int} (h:NRow w b M f) (i:Nat) (x:Int):NRow (w.setCell ⟨b,i,none⟩ (.int .i64 x)) b M (fun j=>if j=i then x else f j):=
 (World.rowIs.set h i (.int .i64 x)).congr (fun j _=>by by_cases e:j=i<;>simp[e])
theorem NRow.congr {w:World} {b M:Nat} {f g:Nat→Int} (h:NRow w b M f) (e:∀ j,j < M→f j=g j):NRow w b M g:=World.rowIs.congr h (fun j hj=>by rw[e j hj])
theorem NRow.of_block {w w':World} {b M:Nat} {f:Nat→Int} (h:NRow w b M f) (e:w'.heap[b]?=w.heap[b]?):NRow w' b M f:=World.rowIs.of_block h e
theorem NRow.cell {w:World} {b M:Nat} {f:Nat→Int} (h:NRow w b M f) {i:Nat} (hi:i < M):w.cell? ⟨b,i,none⟩=some (.int .i64 (f i)):=World.rowIs.cell h hi
theorem kin_any (v:Value) (zs:List Int) (x:Int) (w:World) (h:RdI w v zs) (hl:zs.length≤1000000):Calls Tryz.prog 29 #[v,.int .i64 x] w fun e w'=>e=.returned (.bool (decide (x∈zs)))∧w=w':=by
 obtain⟨p,cap,rfl,hcap,hV⟩:=h
 go_enter Tryz.func29,Tryz.ntmps29
 go_wp2
 go_loopw [5] (fun i wr=>∃ k:Nat,k≤zs.length∧i=.int .i64 k∧Hid (∀ j (h:j < zs.length),j < k→zs[j]≠x)∧wr=w) (fun i _=>zs.length-(intOf i).toNat)
 case atStart=>exact⟨0,by omega,rfl,zN fun j _ hj=>by omega,rfl⟩
 case round=>
  obtain⟨k,hk,rfl,HK,rfl⟩:=hrel
  by_cases hlt:k < zs.length
  ·have hdk:decide ((k:Int) < (zs.length:Int))=true:=zDt (by omega)
   obtain⟨b,o,rfl,hbl,hcell⟩:=hV.cell (by omega)
   have ck:=hcell k hlt
   obtain⟨y,hy⟩:∃ y,y=zs[k]:=⟨_,rfl⟩
   rw[←hy] at ck
   have HY:=zN hy
   clear hy hcell
   by_cases hr:y=x
   ·have HN:Hid (decide (x∈zs)=true):=zN (zDt (by rw[←hr,HY.out];exact List.getElem_mem _))
    subst hr
    go_wp2
    go_ret
    rw[HN.out];exact⟨rfl,rfl⟩
   ·have hb:(y == x)=false:=by rw[beq_eq_false_iff_ne];exact hr
    go_wp2
    go_roundw
    case rel=>exact⟨k+1,by omega,by go_num,zN fun j hj hjk=>by
     by_cases h:j=k
     ·subst h;rw[←HY.out];exact hr
     ·exact HK.out j hj (by omega),(by first|rfl|trivial)⟩
    case measure=>simp[intOf];omega
  ·have hdk:decide ((k:Int) < (zs.length:Int))=false:=zDf (by omega)
   have hkl:k=zs.length:=by omega
   have HN:Hid (decide (x∈zs)=false):=zN (zDf fun hx=>by
    obtain⟨j,hj,e⟩:=List.getElem_of_mem hx
    exact HK.out j hj (by omega) e)
   clear hkl
   go_wp2
   go_ret
   rw[HN.out];exact⟨rfl,rfl⟩
def rdLen (r:Rep):Nat:=match r.rd with
 |.slice _ n _=>n
 |_=>0
def smallR (r:Rep):Bool:=decide (r.name.size≤40) && decide (rdLen r≤40)
def smallB (n:Nat) (l:List Rep):Bool:=decide (l.length≤n) && l.all smallR
end Go.Proofs.YtednaajanciabaaGreatDoor
