import Derived.Test.YtbomggfklfbnkaaGreatDoorFromL
import Derived.Test.YtbomggfklfbnkaaGreatDoorListP
import Derived.Test.YtbomggfklfbnkaaGreatDoorKLin
import Derived.Test.YtbomggfklfbnkaaGreatDoorKFreq
set_option maxRecDepth 100000
set_option maxHeartbeats 8000000
set_option linter.unusedSimpArgs false
set_option linter.unusedVariables false
namespace Go.Proofs.YtbomggfklfbnkaaGreatDoor
open Go.RowKit Go.Grid
def nbG (n:Nat):Nat→List Nat:=nbN (nextL n)
open Classical in
noncomputable def hopEnd (n a:Nat):Nat:=if h:∃ i,(Bfs.st (nbG n) a i).2.length=i then h.choose else 0
noncomputable def hop (n a b:Nat):Int:=(Bfs.st (nbG n) a (hopEnd n a)).1 b
theorem next_bd {n:Nat} (h1:1≤n) (h8:n≤8) {i:Nat} {x:Int} (h:x∈nextL n i):0≤x∧x < (nodesL n).length:=by
 obtain⟨e,he,h⟩:=mem_next.1 h
 have h5:=edges_in h1 h8 e he
 rcases h with ⟨_,rfl⟩|⟨_,rfl⟩<;>omega
theorem nbG_lt {n:Nat} (h1:1≤n) (h8:n≤8):∀ u,u < (nodesL n).length→∀ v∈nbG n u,v < (nodesL n).length:=
 nbN_lt (fun i _ x hx=>next_bd h1 h8 hx)
theorem hop_eq {n a i:Nat} (h1:1≤n) (h8:n≤8) (ha:a < (nodesL n).length) (h:(Bfs.st (nbG n) a i).2.length=i) (b:Nat):(Bfs.st (nbG n) a i).1 b=hop n a b:=by
 have hex:∃ i,(Bfs.st (nbG n) a i).2.length=i:=⟨i,h⟩
 have he:(Bfs.st (nbG n) a (hopEnd n a)).2.length=hopEnd n a:=by
  unfold hopEnd;rw[dif_pos hex];exact hex.choose_spec
 exact Bfs.ended_unique ha (nbG_lt h1 h8) h he b
theorem hop_facts {n a:Nat} (h1:1≤n) (h8:n≤8) (ha:a < (nodesL n).length) (hex:∃ i,(Bfs.st (nbG n) a i).2.length=i) :
  (∀ k v,Bfs.Walk (nbG n) a k v→0≤hop n a v∧hop n a v≤k)∧∀ v,0≤hop n a v→Bfs.Walk (nbG n) a (hop n a v).toNat v:=by
 obtain⟨i,hi⟩:=hex
 have h:=Bfs.ended ha (nbG_lt h1 h8) hi
 have he:=hop_eq h1 h8 ha hi
 exact⟨fun k v hw=>by rw[←he];exact h.1 k v hw,fun v hv=>by rw[←he] at hv ⊢;exact h.2 v hv⟩
theorem mem_nbG {n u v:Nat} (h1:1≤n) (h8:n≤8):v∈nbG n u↔(v:Int)∈nextL n u:=by
 unfold nbG nbN
 rw[List.mem_map]
 refine⟨fun ⟨x,hx,e⟩=>?_,fun h=>⟨_,h,by simp⟩⟩
 have h0:=(next_bd h1 h8 hx).1
 rwa[←show x=(v:Int) by omega]
theorem nbG_symm {n:Nat} (h1:1≤n) (h8:n≤8):∀ u v,v∈nbG n u→u∈nbG n v:=fun u v h=>by
 rw[mem_nbG h1 h8,mem_next] at h ⊢
 obtain⟨e,he,h⟩:=h
 have h5:=edges_in h1 h8 e he
 refine⟨e,he,?_⟩
 rcases h with ⟨h3,h4⟩|⟨h3,h4⟩
 ·exact .inr ⟨by omega,by omega⟩
 ·exact .inl ⟨by omega,by omega⟩
theorem reach {n a b:Nat} (h1:1≤n) (h8:n≤8) (ha:a < (nodesL n).length) (hb:b < (nodesL n).length):∃ k,Bfs.Walk (nbG n) a k b:=by
 classical
 let x:List Int:=(List.range (nodesL n).length).map (fun i=>if ∃ k,Bfs.Walk (nbG n) a k i then (1:Int) else 0)
 have hxl:x.length=(nodesL n).length:=by simp[x]
 have hx:∀ i,i < (nodesL n).length→x.getD i 0=if ∃ k,Bfs.Walk (nbG n) a k i then (1:Int) else 0:=fun i hi=>by
  simp[x,List.getD_eq_getElem?_getD,hi]
 have hflat:FlatE n x:=fun e he=>by
  have h5:=edges_in h1 h8 e he
  have hn1:e.2.toNat∈nbG n e.1.toNat:=(mem_nbG h1 h8).2 (mem_next.2 ⟨e,he,.inl ⟨rfl,by omega⟩⟩)
  rw[hx _ (by omega),hx _ (by omega)]
  have hiff:(∃ k,Bfs.Walk (nbG n) a k e.1.toNat)↔∃ k,Bfs.Walk (nbG n) a k e.2.toNat:=
   ⟨fun ⟨k,h⟩=>⟨k+1,.succ h hn1⟩,fun ⟨k,h⟩=>⟨k+1,.succ h (nbG_symm h1 h8 _ _ hn1)⟩⟩
  by_cases h:∃ k,Bfs.Walk (nbG n) a k e.1.toNat
  ·rw[if_pos h,if_pos (hiff.1 h)]
  ·rw[if_neg h,if_neg (fun h2=>h (hiff.2 h2))]
 have hall:=fun (i:Nat) (hi:i < (nodesL n).length)=>flat_all h1 (by omega) (hh_mul h1 h8) hflat hi
 have ea:=hall a ha
 have eb:=hall b hb
 rw[hx a ha,if_pos ⟨0,.zero⟩] at ea
 rw[hx b hb,←ea] at eb
 by_cases h:∃ k,Bfs.Walk (nbG n) a k b
 ·exact h
 ·rw[if_neg h] at eb;omega
def AllEnd (n:Nat):Prop:=∀ a,a < (nodesL n).length→∃ i,(Bfs.st (nbG n) a i).2.length=i
theorem hop_nonneg {n a b:Nat} (h1:1≤n) (h8:n≤8) (ha:a < (nodesL n).length) (hb:b < (nodesL n).length) (hex:∃ i,(Bfs.st (nbG n) a i).2.length=i):0≤hop n a b:=by
 obtain⟨k,hk⟩:=reach h1 h8 ha hb
 exact ((hop_facts h1 h8 ha hex).1 k b hk).1
theorem hop_walk {n a b:Nat} (h1:1≤n) (h8:n≤8) (ha:a < (nodesL n).length) (hb:b < (nodesL n).length) (hex:∃ i,(Bfs.st (nbG n) a i).2.length=i):Bfs.Walk (nbG n) a (hop n a b).toNat b:=
 (hop_facts h1 h8 ha hex).2 b (hop_nonneg h1 h8 ha hb hex)
theorem hop_symm {n a b:Nat} (h1:1≤n) (h8:n≤8) (ha:a < (nodesL n).length) (hb:b < (nodesL n).length) (hea:∃ i,(Bfs.st (nbG n) a i).2.length=i) (heb:∃ i,(Bfs.st (nbG n) b i).2.length=i):hop n a b=hop n b a:=by
 have w1:=(hop_walk h1 h8 ha hb hea).symm (nbG_symm h1 h8)
 have w2:=(hop_walk h1 h8 hb ha heb).symm (nbG_symm h1 h8)
 have f1:=(hop_facts h1 h8 ha hea).1 _ _ w2
 have f2:=(hop_facts h1 h8 hb heb).1 _ _ w1
 omega
theorem hop_zero {n a b:Nat} (h1:1≤n) (h8:n≤8) (ha:a < (nodesL n).length) (hb:b < (nodesL n).length) (hea:∃ i,(Bfs.st (nbG n) a i).2.length=i):hop n a b=0↔a=b:=by
 constructor
 ·intro h
  have w:=hop_walk h1 h8 ha hb hea
  rw[h] at w
  exact w.nil
 ·rintro rfl
  have f:=(hop_facts h1 h8 ha hea).1 0 a .zero
  omega
end Go.Proofs.YtbomggfklfbnkaaGreatDoor
