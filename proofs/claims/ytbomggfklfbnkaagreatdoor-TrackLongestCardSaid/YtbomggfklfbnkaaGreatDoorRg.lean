import Derived.Test.YtbomggfklfbnkaaGreatDoorKRegion
set_option maxRecDepth 100000
set_option maxHeartbeats 8000000
set_option linter.unusedSimpArgs false
set_option linter.unusedVariables false
namespace Go.RX
open Go.RowKit
def cov2 (val:Nat→Bool) (bit:Nat→Nat→Bool):Nat→List Nat→List (List Nat)→Bool
 |0,rem,_=>rem.isEmpty
 |m+1,rem,πs=>rem.all fun j=>rem.any (fun i=>i != j && bit i j) || (!((πs.filterMap fun π=>if π.head?=some j then some π.tail else none).isEmpty) && (val j || decide ((πs.filterMap fun π=>if π.head?=some j then some π.tail else none).length=1)) && cov2 val bit m (rem.filter (· != j)) (πs.filterMap fun π=>if π.head?=some j then some π.tail else none))
section
variable {P:Program} {ops:Array Oper} {S:World→Prop}
theorem wpAny_of_fam2 {flo:Oper→Bool} {Q:Act→World→Prop} {Q':Exit→Act→World→Prop} (hQ:∀ a w,Q a w→Q' .normal a w) {bit:Nat→Nat→Bool} (hbit:∀ i j,bit i j=true→Anc ops i j)
  {val:Nat→Bool} (hval:∀ (j:Nat) (o:Oper),ops[j]?=some o→flo o=false→val j=true→valueOp o=true)
  (hlow:∀ j o,ops[j]?=some o→∀ e∈o.after,Region.binds .any e=true→e.on < j)
  (hpair:∀ i j,i < ops.size→j < ops.size→i≠j→Anc ops i j∨Anc ops j i∨∀ x y,ops[i]?=some x→ops[j]?=some y→(flo x=true∨flo y=true)→Apart ops x y) :
  ∀ (n m:Nat) (F:List (List (Bool × Nat))) (rem:List Nat) (listed:Array Bool) (a:Act) (w:World),F≠[]→listed.size=ops.size→(∀ j,listed.getD j false=true→Deps ops listed j)→
   (∀ L∈F,L.length=n∧LeftT flo ops listed L∧wpG P ops S Q L a w)→(∀ j,j < ops.size→listed.getD j true=false→(∀ o,ops[j]?=some o→flo o=false)→j∈rem)→(∀ j∈rem,listed.getD j true=false∧∀ o,ops[j]?=some o→flo o=false)→cov2 val bit m rem (F.map chs)=true→S w→wpAny P .any ops Q' n listed a w
 |0,m,F,rem,listed,a,w,hF,hsz,hcl,hall,hrem,hrem',hcov,hS=>by
  obtain⟨L,hL⟩:=List.exists_mem_of_ne_nil F hF
  obtain⟨h1,h2,h3⟩:=hall L hL
  obtain rfl:L=[]:=List.eq_nil_of_length_eq_zero h1
  refine⟨?_,hQ _ _ h3⟩
  refine List.eq_nil_iff_forall_not_mem.2 fun j hj=>?_
  obtain⟨hu,o,ho,_⟩:=mem_ready.1 hj
  obtain⟨f,hf⟩:=h2.all j (Array.getElem?_eq_some_iff.1 ho).1 hu
  cases hf
 |n+1,m,F,rem,listed,a,w,hF,hsz,hcl,hall,hrem,hrem',hcov,hS=>by
  refine⟨fun h0=>?_,fun i hi=>?_⟩
  ·exfalso
   obtain⟨L,hLF⟩:=List.exists_mem_of_ne_nil F hF
   obtain⟨hn,hL,_⟩:=hall L hLF
   match L,hn,hL with
   |(f,i) :: r,_,hL=>
    obtain⟨h1,h2,_⟩:=hL.mem f i (List.mem_cons_self ..)
    have hi:i∈Region.ready .any ops listed:=by
     refine mem_ready.2 ⟨h2,ops[i],Array.getElem?_eq_getElem h1,fun e he hb=>?_⟩
     have hlt:=hlow i _ (Array.getElem?_eq_getElem h1) e he hb
     cases hl:listed.getD e.on false with
     |true=>rfl
     |false=>
      exfalso
      have hlt':e.on < ops.size:=by omega
      have:listed.getD e.on true=false:=by
       have hs:e.on < listed.size:=by rw[hsz];exact hlt'
       simp[Array.getD_eq_getD_getElem?,hs] at hl ⊢;exact hl
      obtain⟨g,hg⟩:=hL.all e.on hlt' this
      rcases List.mem_cons.1 hg with hg|hg
      ·injection hg with _ hg;omega
      ·exact (List.pairwise_cons.1 hL.topo).1 _ hg (.edge (Array.getElem?_eq_getElem h1) he hb)
    rw[h0] at hi;cases hi
  ·obtain⟨hu,o,ho,hdep⟩:=mem_ready.1 hi
   have hlt:=(Array.getElem?_eq_some_iff.1 ho).1
   have hdeps:Deps ops listed i:=fun o' ho'=>by rw[ho] at ho';injection ho' with ho';subst ho';exact hdep
   have hcl':∀ j,(listed.setIfInBounds i true).getD j false=true→Deps ops (listed.setIfInBounds i true) j:=by
    intro j hj o' ho' e he hb
    by_cases hji:i=j
    ·subst hji;exact getD_set_true (hdeps o' ho' e he hb)
    ·rw[getD_set_ne false hji] at hj
     exact getD_set_true (hcl j hj o' ho' e he hb)
   have notAnc:∀ k,k < ops.size→listed.getD k true=false→¬ Anc ops k i:=fun k hk hk2 hanc=>by
    have h1:=anc_listed hcl hanc hdeps
    have hs:k < listed.size:=by rw[hsz];exact hk
    simp[Array.getD_eq_getD_getElem?,hs] at h1 hk2
    rw[h1] at hk2;cases hk2
   have hsz':(listed.setIfInBounds i true).size=ops.size:=by simp[hsz]
   have hpre:∀ (pre post:List (Bool × Nat)) (f:Bool),LeftT flo ops listed (pre ++ (f,i) :: post)→∀ p∈pre,(p.1=true∨f=true)→∀ op,ops[p.2]?=some op→Apart ops op o:=by
    intro pre post f hL p hp hfl op hop
    have hm:=hL.mem p.1 p.2 (by simp[hp])
    have hne:=(List.pairwise_append.1 hL.nodup).2.2 p hp (f,i) (List.mem_cons_self ..)
    have htp:=(List.pairwise_append.1 hL.topo).2.2 p hp (f,i) (List.mem_cons_self ..)
    have hfi:=(hL.mem f i (by simp)).2.2 o ho
    rcases hpair p.2 i hm.1 hlt hne with h|h|h
    ·exact (notAnc _ hm.1 hm.2.1 h).elim
    ·exact (htp h).elim
    ·exact h op o hop ho (hfl.imp (fun h=>by rw[hm.2.2 op hop];exact h) (fun h=>by rw[hfi];exact h))
   unfold wpOp
   simp only[ho]
   cases hfo:flo o with
   |true=>
    have hparts:∀ L∈F,∃ pre post,L=pre ++ (true,i) :: post:=fun L hL=>by
     obtain⟨_,h2,_⟩:=hall L hL
     obtain⟨f,hf⟩:=h2.all i hlt hu
     have:=(h2.mem f i hf).2.2 o ho
     rw[hfo] at this;subst this
     exact List.append_of_mem hf
    have hnew:∀ a' w',S w'→(∀ L∈F,wpG P ops S Q (rid i L) a' w')→wpAny P .any ops Q' n (listed.setIfInBounds i true) a' w':=by
     intro a' w' hS' h
     refine wpAny_of_fam2 hQ hbit hval hlow hpair n m (F.map (rid i)) rem _ a' w' (by simpa using hF) hsz' hcl' ?_ ?_ ?_ ?_ hS'
     ·intro L' hL'
      obtain⟨L,hL,rfl⟩:=List.mem_map.1 hL'
      obtain⟨pre,post,rfl⟩:=hparts L hL
      obtain⟨h1,h2,_⟩:=hall _ hL
      have h4:=h _ hL
      rw[rid_app h2.nodup] at h4 ⊢
      exact⟨by simp at h1 ⊢;omega,h2.rid hsz,h4⟩
     ·intro j hj hju hjf
      have hne:i≠j:=by
       rintro rfl
       have hs:i < listed.size:=by rw[hsz];exact hlt
       simp[Array.getD_eq_getD_getElem?,hs] at hju
      rw[getD_set_ne true hne] at hju
      exact hrem j hj hju hjf
     ·intro j hj
      have hne:i≠j:=by
       rintro rfl
       have:=(hrem' i hj).2 o ho
       rw[hfo] at this;cases this
      rw[getD_set_ne true hne]
      exact hrem' j hj
     ·have:(F.map (rid i)).map chs=F.map chs:=by
       rw[List.map_map]
       refine List.map_congr_left fun L hL=>?_
       obtain⟨pre,post,rfl⟩:=hparts L hL
       obtain⟨h1,h2,_⟩:=hall _ hL
       show chs (rid i _)=_
       rw[rid_app h2.nodup,chs_float]
      rw[this];exact hcov
    split
    ·rename_i hw
     refine .inl ?_
     have hv:∃ u,(execOp a.eval o).run P w=.ok (.value u) w∧∀ L∈F,wpG P ops S Q (rid i L) (a.put o.dst u) w:=by
      obtain⟨L0,hL0⟩:=List.exists_mem_of_ne_nil F hF
      have key:∀ L∈F,∃ v,Obl P S o v a∧wpG P ops S Q (rid i L) (a.put o.dst v) w:=by
       intro L hL
       obtain⟨pre,post,rfl⟩:=hparts L hL
       obtain⟨h1,h2,h3⟩:=hall _ hL
       have h4:=hoistF ho post pre a w (fun p hp op hop=>hpre pre post true h2 p hp (.inr rfl) op hop) hS h3
       rw[if_pos hw] at h4
       rw[rid_app h2.nodup]
       exact h4
      obtain⟨v0,hv0,_⟩:=key L0 hL0
      obtain⟨u,hu1,_⟩:=hv0 w hS
      refine⟨u,hu1,fun L hL=>?_⟩
      obtain⟨v,hv,h⟩:=key L hL
      obtain⟨u',hu1',hu2'⟩:=hv w hS
      rw[hu1] at hu1'
      injection hu1' with e1
      injection e1 with e1
      subst e1
      rw[put_eq (o:=o) hu2']
      exact h
     obtain⟨u,hu1,h⟩:=hv
     unfold Oper.wp
     rw[hu1]
     exact hnew _ _ hS h
    ·rename_i hw
     refine hnew _ _ hS fun L hL=>?_
     obtain⟨pre,post,rfl⟩:=hparts L hL
     obtain⟨h1,h2,h3⟩:=hall _ hL
     have h4:=hoistF ho post pre a w (fun p hp op hop=>hpre pre post true h2 p hp (.inr rfl) op hop) hS h3
     rw[if_neg hw] at h4
     rw[rid_app h2.nodup]
     exact h4
   |false=>
    have hir:i∈rem:=hrem i hlt hu (fun o' ho'=>by rw[ho] at ho';injection ho' with ho';subst ho';exact hfo)
    match m,hcov with
    |0,hcov=>simp[cov2] at hcov;subst hcov;cases hir
    |m+1,hcov=>
    simp only[cov2,List.all_eq_true] at hcov
    have hci:=hcov i hir
    have hnone:rem.any (fun k=>k != i && bit k i)=false:=by
     rw[Bool.eq_false_iff]
     intro h
     obtain⟨k,hk,hk2⟩:=List.any_eq_true.1 h
     simp only[Bool.and_eq_true] at hk2
     have hku:=(hrem' k hk).1
     have hks:k < ops.size:=by
      by_cases hks:k < ops.size
      ·exact hks
      ·exfalso
       have:listed[k]?=none:=Array.getElem?_eq_none (by omega)
       simp[Array.getD_eq_getD_getElem?,this] at hku
     exact notAnc k hks hku (hbit k i hk2.2)
    rw[hnone,Bool.false_or,Bool.and_eq_true,Bool.and_eq_true] at hci
    obtain⟨⟨hne0,hval1⟩,hcov2⟩:=hci
    have hsplit:∀ L∈F,(chs L).head?=some i→∃ pre post,L=pre ++ (false,i) :: post∧(∀ p∈pre,p.1=true):=fun L _ h=>split_head L i h
    have hts:((F.map chs).filterMap fun π=>if π.head?=some i then some π.tail else none)=((F.filter fun L=>decide ((chs L).head?=some i)).map (rid i)).map chs:=by
     rw[List.map_map]
     have gen:∀ G:List (List (Bool × Nat)),(∀ L∈G,L∈F)→((G.map chs).filterMap fun π=>if π.head?=some i then some π.tail else none)=(G.filter fun L=>decide ((chs L).head?=some i)).map (chs ∘ rid i):=by
      intro G
      induction G with
      |nil=>intro _;rfl
      |cons L G ih=>
       intro hG
       have ih:=ih fun L hL=>hG L (List.mem_cons_of_mem _ hL)
       rw[List.map_cons,List.filterMap_cons,List.filter_cons]
       by_cases hh:(chs L).head?=some i
       ·obtain⟨pre,post,hLe,hp⟩:=hsplit L (hG L (List.mem_cons_self ..)) hh
        have h2:=(hall L (hG L (List.mem_cons_self ..))).2.1
        rw[if_pos hh,if_pos (by simpa using hh),List.map_cons,ih]
        have e:chs (rid i L)=(chs L).tail:=by
         subst hLe
         rw[rid_app h2.nodup,chs_head (π:=[]) hp];rfl
        show (chs L).tail :: _=chs (rid i L) :: _
        rw[e]
       ·rw[if_neg hh,if_neg (by simpa using hh),ih]
     exact gen F fun _ h=>h
    rw[hts] at hne0 hcov2 hval1
    have hF':(F.filter fun L=>decide ((chs L).head?=some i))≠[]:=by
     intro h;rw[h] at hne0;simp at hne0
    have hnew:∀ a' w',S w'→(∀ L∈F,(chs L).head?=some i→wpG P ops S Q (rid i L) a' w')→wpAny P .any ops Q' n (listed.setIfInBounds i true) a' w':=by
     intro a' w' hS' h
     refine wpAny_of_fam2 hQ hbit hval hlow hpair n m ((F.filter fun L=>decide ((chs L).head?=some i)).map (rid i)) (rem.filter (· != i)) _ a' w' (by simpa using hF') hsz' hcl' ?_ ?_ ?_ hcov2 hS'
     ·intro L' hL'
      obtain⟨L,hL,rfl⟩:=List.mem_map.1 hL'
      obtain⟨hLF,hh⟩:=List.mem_filter.1 hL
      have hh':(chs L).head?=some i:=by simpa using hh
      obtain⟨pre,post,rfl,hp⟩:=hsplit L hLF hh'
      obtain⟨h1,h2,_⟩:=hall _ hLF
      have h4:=h _ hLF hh'
      rw[rid_app h2.nodup] at h4 ⊢
      exact⟨by simp at h1 ⊢;omega,h2.rid hsz,h4⟩
     ·intro j hj hju hjf
      have hne:i≠j:=by
       rintro rfl
       have hs:i < listed.size:=by rw[hsz];exact hlt
       simp[Array.getD_eq_getD_getElem?,hs] at hju
      rw[getD_set_ne true hne] at hju
      exact List.mem_filter.2 ⟨hrem j hj hju hjf,by simpa using Ne.symm hne⟩
     ·intro j hj
      obtain⟨hj1,hj2⟩:=List.mem_filter.1 hj
      have hne:i≠j:=by
       rintro rfl;simp at hj2
      rw[getD_set_ne true hne]
      exact hrem' j hj1
    have hone:∀ L∈F,(chs L).head?=some i→if Region.wanted o (yielded ops a.tmps) then o.wp P a w (fun a' w'=>S w'∧wpG P ops S Q (rid i L) a' w') noExit else wpG P ops S Q (rid i L) (a.put o.dst undef) w:=by
     intro L hL hh
     obtain⟨pre,post,rfl,hp⟩:=hsplit L hL hh
     obtain⟨h1,h2,h3⟩:=hall _ hL
     rw[rid_app h2.nodup]
     exact hoistC ho post pre a w (fun p hpp=>⟨hp p hpp,fun op hop=>hpre pre post false h2 p hpp (.inl (hp p hpp)) op hop⟩) h3
    split
    ·rename_i hw
     refine .inl ?_
     obtain⟨L0,hL0⟩:=List.exists_mem_of_ne_nil _ hF'
     obtain⟨hL0F,hh0⟩:=List.mem_filter.1 hL0
     have h0:=hone L0 hL0F (by simpa using hh0)
     have hrest:∀ L∈F,(chs L).head?=some i→o.wp P a w (fun a' w'=>S w'∧wpG P ops S Q (rid i L) a' w') noExit:=fun L hL hh=>by
      have:=hone L hL hh
      rw[if_pos hw] at this;exact this
     rw[if_pos hw] at h0
     cases hvi:val i with
     |false=>
      rw[hvi,Bool.false_or] at hval1
      have hlen:(F.filter fun L=>decide ((chs L).head?=some i)).length=1:=by simpa using hval1
      obtain⟨L1,hL1⟩:=List.length_eq_one_iff.1 hlen
      have hu1:∀ L∈F,(chs L).head?=some i→L=L1:=fun L hL hh=>by
       have:L∈(F.filter fun L=>decide ((chs L).head?=some i)):=List.mem_filter.2 ⟨hL,by simpa using hh⟩
       rw[hL1] at this;simpa using this
      have h01:L0=L1:=hu1 L0 hL0F (by simpa using hh0)
      refine exitI (Oper.wp_mono (fun a' w' hh=>hnew a' w' hh.1 fun L hL hl=>?_) h0)
      rw[hu1 L hL hl,←h01];exact hh.2
     |true=>
     unfold Oper.wp at h0 hrest ⊢
     cases hr:(execOp a.eval o).run P w with
     |ok nx w'=>
      obtain⟨u,rfl⟩:=value_of_valueOp (hval i o ho hfo hvi) hr
      rw[hr] at h0
      refine hnew _ _ h0.1 fun L hL hh=>?_
      have:=hrest L hL hh
      rw[hr] at this
      exact this.2
     |halt x w'=>
      rw[hr] at h0
      cases x<;>simp only[Oper.upon] at h0 ⊢
      exact h0.elim
    ·rename_i hw
     refine hnew _ _ hS fun L hL hh=>?_
     have:=hone L hL hh
     rw[if_neg hw] at this
     exact this
end
def chkF2 (flo:Oper→Bool) (l:List Oper) (πs:List (List Nat)):Bool:=
 let m:=masksFrom #[] l
 Region.noSelect l.toArray && (l.zipIdx.all fun (o,j)=>o.after.all fun e=>!Region.binds .any e || decide (e.on < j)) &&
  ((List.range l.length).all fun j=>(List.range j).all fun i=>(m.getD j 0).testBit i || ((!flo (nth l i) && !flo (nth l j)) || (nth l i).apart l.toArray (nth l j))) &&
  !πs.isEmpty && πs.all (fun π=>π.length == l.length && topoOk l [] π && (List.range l.length).all (fun i=>π.contains i)) &&
  cov2 (fun j=>valueOp (nth l j)) (fun i j=>(m.getD j 0).testBit i) l.length ((List.range l.length).filter fun j=>!flo (nth l j)) (πs.map fun π=>chs (flagsAt flo l π))
section
variable {S:World→Prop}
theorem regionF2 {P:Program} {id:Nat} {Q:Exit→Act→World→Prop} {a:Act} {w:World} {l:List Oper} (flo:Oper→Bool) (S:World→Prop) (πs:List (List Nat)) (hm:P.follows .mixedOrders=true) (hB:chkF2 flo l πs=true)
  (hS:S w.drew) (h:∀ OPS:Array Oper,Veil (OPS=l.toArray)→∀ R:Act→World→Prop,(∀ a' w',Q .normal a' w'→R a' w')→∀ π∈πs,wpL P OPS flo S R (pick l π) a w.drew):(Code.region id l.toArray true).wp P Q a w:=by
 simp only[chkF2,Bool.and_eq_true] at hB
 obtain⟨⟨⟨⟨⟨hsel,hlow⟩,hp⟩,hne⟩,hπ⟩,hcov⟩:=hB
 have hsel':=Region.noSelect_spec hsel
 have hbit:∀ i j,((masksFrom #[] l).getD j 0).testBit i=true→Anc l.toArray i j:=masksFrom_spec (ops:=l.toArray) l #[] (fun j=>by simp) (by simp)
 refine wp_region_any hm ?_
 have hget:∀ j o,l.toArray[j]?=some o→j < l.length∧o=nth l j:=fun j o ho=>by
  have hj:j < l.length:=by simpa using (Array.getElem?_eq_some_iff.1 ho).1
  simp[hj] at ho;exact⟨hj,by simp[nth,hj,ho]⟩
 refine wpAny_of_fam2 (val:=fun j=>valueOp (nth l j)) (S:=S) (P:=P) (Q:=fun a' w'=>Q .normal a' w') (flo:=flo) (fun _ _ h=>h) (bit:=fun i j=>((masksFrom #[] l).getD j 0).testBit i) hbit ?_ ?_ ?_ _ l.length (πs.map (flagsAt flo l)) ((List.range l.length).filter fun j=>!flo (nth l j)) _ a _ ?_ (by simp) ?_ ?_ ?_ ?_ ?_ hS
 ·intro j o ho hf hv
  obtain⟨hj,rfl⟩:=hget j o ho
  exact hv
 ·intro j o ho e he hb
  have hl:l[j]?=some o:=by simpa using ho
  have hm:=List.all_eq_true.1 hlow (o,j) (by rw[List.mem_zipIdx_iff_getElem?];exact hl)
  have:=Array.all_eq_true_iff_forall_mem.1 hm e he
  simpa[hb] using this
 ·have one:∀ i j,i < j→j < l.length→Anc l.toArray i j∨∀ x y,l.toArray[i]?=some x→l.toArray[j]?=some y→(flo x=true∨flo y=true)→Apart l.toArray x y:=by
   intro i j hij hj
   have h1:=List.all_eq_true.1 (List.all_eq_true.1 hp j (List.mem_range.2 hj)) i (List.mem_range.2 hij)
   rw[Bool.or_eq_true] at h1
   rcases h1 with h1|h1
   ·exact .inl (hbit i j h1)
   ·refine .inr fun x y hx hy hf=>?_
    obtain⟨_,rfl⟩:=hget i x hx
    obtain⟨_,rfl⟩:=hget j y hy
    rw[Bool.or_eq_true] at h1
    rcases h1 with h1|h1
    ·rcases hf with hf|hf<;>simp[hf] at h1
    ·obtain⟨s1,s2,s3⟩:=Oper.apart_spec h1
     exact⟨s1,s2,s3,fun cs b=>hsel' i _ cs b hx,fun cs b=>hsel' j _ cs b hy⟩
  intro i j hi hj hij
  rcases Nat.lt_or_gt_of_ne hij with hlt|hlt
  ·exact (one i j hlt (by simpa using hj)).imp (fun h=>h) .inr
  ·rcases one j i hlt (by simpa using hi) with h1|h1
   ·exact .inr (.inl h1)
   ·exact .inr (.inr fun x y hx hy hf=>(h1 y x hy hx hf.symm).symm)
 ·simpa using hne
 ·intro j hj;rw[getD_replicate_false] at hj;cases hj
 ·intro L hL
  obtain⟨π,hπm,rfl⟩:=List.mem_map.1 hL
  have hc:=List.all_eq_true.1 hπ π hπm
  simp only[Bool.and_eq_true] at hc
  obtain⟨⟨hlen,htop⟩,hfull⟩:=hc
  obtain⟨t1,t2⟩:=topo_spec π [] htop (fun j hj=>by cases hj)
  refine⟨by simpa[flagsAt] using hlen,⟨fun f i hfi=>?_,fun i hi _=>?_,?_,?_⟩,?_⟩
  ·obtain⟨j,hj,he⟩:=List.mem_map.1 hfi
   injection he with e1 e2
   subst e2
   have hj':=(t1 j hj).1
   refine⟨by simpa using hj',by simp[hj'],fun o ho=>?_⟩
   obtain⟨_,rfl⟩:=hget _ _ ho
   exact e1
  ·have hi':i < l.length:=by simpa using hi
   have:=List.all_eq_true.1 hfull i (List.mem_range.2 hi')
   exact⟨flo (nth l i),List.mem_map.2 ⟨i,by simpa using this,rfl⟩⟩
  ·exact List.pairwise_map.2 (t2.imp fun h=>h.1)
  ·exact List.pairwise_map.2 (t2.imp fun h=>h.2)
  ·exact wpG_of_pick π a _ (fun i hi=>(t1 i hi).1) (h l.toArray rfl _ (fun _ _ h=>h) π hπm)
 ·intro j hj _ hf
  have hj':j < l.length:=by simpa using hj
  refine List.mem_filter.2 ⟨List.mem_range.2 hj',?_⟩
  have:=hf (nth l j) (by simp[nth,hj'])
  simp[this]
 ·intro j hj
  obtain⟨h1,h2⟩:=List.mem_filter.1 hj
  have hj':j < l.length:=List.mem_range.1 h1
  refine⟨by simp[hj'],fun o ho=>?_⟩
  obtain⟨_,rfl⟩:=hget _ _ ho
  simpa using h2
 ·rw[List.map_map];exact hcov
end
end Go.RX
