import Derived.Test.YtednaajanciabaaGreatDoorKBAwk
set_option maxRecDepth 100000
set_option maxHeartbeats 8000000
set_option linter.unusedSimpArgs false
set_option linter.unusedVariables false
set_option linter.unusedSectionVars false
namespace Go.Proofs.YtednaajanciabaaGreatDoor
open Go.RowKit Go.Grid Go.Buddy
theorem mem_chkL {k:Ctl} {L:List BR} (h:chkE k L=0) {v:I2}:v∈chkL k L↔∃ i e:Nat,i < L.length∧e < 12∧badF k.fr.toNat L k.bd e i=true∧v=((i:Int),(e:Int)):=by
 unfold chkL
 rw[if_pos h]
 unfold sort2
 rw[(List.mergeSort_perm _ _).mem_iff,mem_outC]
theorem nodup_chkL (k:Ctl) (L:List BR):(chkL k L).Nodup:=by
 unfold chkL
 split
 ·unfold sort2
  exact (List.mergeSort_perm _ _).nodup_iff.2 (outC_nodup _ _ _ 12)
 ·exact List.Pairwise.nil
theorem panB_closed (n:Nat) (L:List BR) (lim:Int) (c:Nat):closed (panB n L lim c):=fun i _ k hk=>aroL_lt hk
section
variable {n m:Nat} {L:List BR} {O:List Nat} (hL:L.length=m) (hO:O.Perm (List.range m))
include hL hO
omit hL in
theorem ordY_len:(O.map (bat L)).length=m:=by rw[List.length_map,ord_len hO]
theorem ordY_bat {i:Nat} (hi:i < m):bat (O.map (bat L)) i=bat L (O.getD i 0):=by
 rw[bat_eq (by rw[ordY_len hO];exact hi),List.getElem_map,ord_get hO hi]
theorem ordY_left (lim:Int) (e:Nat) {i:Nat} (hi:i < m):left (panB n (O.map (bat L)) lim e) i=left (panB n L lim e) (O.getD i 0):=by
 have hex:∀ j,j < m→∃ i,i < m∧O.getD i 0=j:=fun j hj=>ord_sur hO hj
 obtain⟨g,hg⟩:∃ g:Nat→Nat,∀ j,j < m→g j < m∧O.getD (g j) 0=j:=⟨fun j=>if h:j < m then (hex j h).choose else 0,fun j hj=>by
  dsimp only
  rw[dif_pos hj]
  exact (hex j hj).choose_spec⟩
 have hmap:(List.range m).map (fun i=>O.getD i 0)=O:=by
  refine List.ext_getElem? fun j=>?_
  by_cases hj:j < m
  ·rw[List.getElem?_map,List.getElem?_range hj,Option.map_some,ord_get hO hj,List.getElem?_eq_getElem]
  ·rw[List.getElem?_eq_none (by simp;omega),List.getElem?_eq_none (by rw[ord_len hO];omega)]
 refine left_perm (P:=panB n L lim e) (Q:=panB n (O.map (bat L)) lim e) (f:=fun i=>O.getD i 0) (by show (O.map (bat L)).length=L.length;rw[ordY_len hO,hL]) (fun i hi=>?_) (panB_closed _ _ _ _) (panB_closed _ _ _ _) g (fun i hi=>?_) (fun i hi=>?_) (fun i hi=>?_) (fun i hi=>?_) (fun i hi=>?_) rfl (fun i hi=>?_) (by show i < L.length;rw[hL];exact hi)
 all_goals
  replace hi:i < m:=by have h:i < L.length:=hi;rwa[hL] at h
 ·show O.getD i 0 < L.length
  rw[hL];exact ord_lt hO hi
 ·show g i < L.length
  rw[hL];exact (hg i hi).1
 ·exact (hg i hi).2
 ·exact ord_inj hO (hg _ (ord_lt hO hi)).1 hi (hg _ (ord_lt hO hi)).2
 ·show fB (bat (O.map (bat L)) i).2 (e:Int)=fB (bat L (O.getD i 0)).2 (e:Int)
  rw[ordY_bat hL hO hi]
 ·show fV (bat (O.map (bat L)) i).2 (e:Int)=fV (bat L (O.getD i 0)).2 (e:Int)
  rw[ordY_bat hL hO hi]
 ·show ((aroL n (O.map (bat L)) (e:Int) i).map (fun i=>O.getD i 0)).Perm (aroL n L (e:Int) (O.getD i 0))
  unfold aroL
  rw[ordY_bat hL hO hi]
  split
  ·rw[ordY_len hO,hL]
   have e1:(List.range m).filter (aroP n (O.map (bat L)) (e:Int) i)=(List.range m).filter (aroP n L (e:Int) (O.getD i 0) ∘ fun i=>O.getD i 0):=List.filter_congr fun j hj=>by
    have hj':=List.mem_range.1 hj
    show aroP n (O.map (bat L)) (e:Int) i j=aroP n L (e:Int) (O.getD i 0) (O.getD j 0)
    unfold aroP cloN
    rw[ordY_bat hL hO hi,ordY_bat hL hO hj']
   rw[e1,←List.filter_map,hmap]
   exact hO.filter _
  ·exact List.Perm.refl _
theorem ordY_bad (f:Nat→Int) (e:Nat) {i:Nat} (hi:i < m):badF n (O.map (bat L)) f e i=badF n L f e (O.getD i 0):=by
 unfold badF rej
 rw[ordY_left hL hO (f e) e hi]
 have:(panB n (O.map (bat L)) (f e) e).pr i=(panB n L (f e) e).pr (O.getD i 0):=by
  show fB (bat (O.map (bat L)) i).2 (e:Int)=fB (bat L (O.getD i 0)).2 (e:Int)
  rw[ordY_bat hL hO hi]
 rw[this]
end
theorem chkL_ord {k:Ctl} {L:List BR} {O:List Nat} (hO:O.Perm (List.range L.length)) (h1:chkE k L=0) (h2:chkE k (O.map (bat L))=0) :
  (chkL k (O.map (bat L))).length=(chkL k L).length∧∀ v∈chkL k (O.map (bat L)),∃ i e:Nat,i < O.length∧v=((i:Int),(e:Int))∧(((O.getD i 0:Nat):Int),(e:Int))∈chkL k L:=by
 have hl:(O.map (bat L)).length=L.length:=ordY_len (L:=L) hO
 have key:∀ v∈chkL k (O.map (bat L)),∃ i e:Nat,i < L.length∧e < 12∧badF k.fr.toNat L k.bd e (O.getD i 0)=true∧v=((i:Int),(e:Int)):=fun v hv=>by
  obtain⟨i,e,hi,he,hb,rfl⟩:=(mem_chkL h2).1 hv
  rw[hl] at hi
  rw[ordY_bad rfl hO k.bd e hi] at hb
  exact⟨i,e,hi,he,hb,rfl⟩
 refine⟨?_,fun v hv=>?_⟩
 ·let F:I2→I2:=fun v=>(((O.getD v.1.toNat 0:Nat):Int),v.2)
  have hp:((chkL k (O.map (bat L))).map F).Perm (chkL k L):=by
   refine (List.perm_ext_iff_of_nodup ?_ (nodup_chkL k L)).2 fun w=>?_
   ·refine List.pairwise_map.2 ?_
    refine (List.Pairwise.and_mem.1 (nodup_chkL k (O.map (bat L)))).imp (fun {a b} hab e=>hab.2.2 ?_)
    obtain⟨i,c,hi,_,_,rfl⟩:=key a hab.1
    obtain⟨j,d,hj,_,_,rfl⟩:=key b hab.2.1
    injection e with e1 e2
    have e3:O.getD i 0=O.getD j 0:=by
     have e1':((O.getD i 0:Nat):Int)=((O.getD j 0:Nat):Int):=e1
     omega
    have e4:=ord_inj hO hi hj e3
    rw[e4]
    have e5:(c:Int)=(d:Int):=e2
    rw[e5]
   ·rw[List.mem_map]
    constructor
    ·rintro⟨v,hv,rfl⟩
     obtain⟨i,e,hi,he,hb,rfl⟩:=key v hv
     exact (mem_chkL h1).2 ⟨O.getD i 0,e,ord_lt hO hi,he,hb,by simp[F]⟩
    ·intro hw
     obtain⟨j,e,hj,he,hb,rfl⟩:=(mem_chkL h1).1 hw
     obtain⟨i,hi,hij⟩:=ord_sur hO hj
     refine⟨((i:Int),(e:Int)),(mem_chkL h2).2 ⟨i,e,by rw[hl];exact hi,he,?_,rfl⟩,?_⟩
     ·rw[ordY_bad rfl hO k.bd e hi,hij];exact hb
     ·show (((O.getD (i:Int).toNat 0:Nat):Int),(e:Int))=((j:Int),(e:Int))
      rw[Int.toNat_natCast,hij]
  rw[←hp.length_eq,List.length_map]
 ·obtain⟨i,e,hi,he,hb,rfl⟩:=key v hv
  exact⟨i,e,by rw[ord_len hO];exact hi,rfl,(mem_chkL h1).2 ⟨O.getD i 0,e,ord_lt hO hi,he,hb,rfl⟩⟩
end Go.Proofs.YtednaajanciabaaGreatDoor
