set_option maxRecDepth 100000
set_option maxHeartbeats 8000000
set_option linter.unusedSimpArgs false
set_option linter.unusedVariables false
namespace Go.Bfs
abbrev St:=(Nat→Int) × List Nat
def step (u:Nat) (s:St) (v:Nat):St:=if s.1 v < 0 then (fun j=>if j=v then s.1 u+1 else s.1 j,s.2 ++ [v]) else s
def st (nb:Nat→List Nat) (a:Nat):Nat→St
 |0=>(fun j=>if j=a then 0 else -1,[a])
 |i+1=>match (st nb a i).2[i]? with
  |some u=>(nb u).foldl (step u) (st nb a i)
  |none=>st nb a i
inductive Walk (nb:Nat→List Nat) (a:Nat):Nat→Nat→Prop
 |zero:Walk nb a 0 a
 |succ {k u v:Nat}:Walk nb a k u→v∈nb u→Walk nb a (k+1) v
structure Inv (nb:Nat→List Nat) (a N i:Nat) (s:St):Prop where
 mem:∀ v,v∈s.2↔0≤s.1 v
 walk:∀ v,v∈s.2→Walk nb a (s.1 v).toNat v
 mono:s.2.Pairwise (fun x y=>s.1 x≤s.1 y)
 near:∀ u,s.2[i]?=some u→∀ x∈s.2,s.1 x≤s.1 u+1
 done:∀ k,k < i→∀ u,s.2[k]?=some u→∀ w∈nb u,w∈s.2∧s.1 w≤s.1 u+1
 nodup:s.2.Nodup
 lt:∀ v∈s.2,v < N
 root:s.1 a=0
 len:i≤s.2.length
 neg:∀ v,s.1 v < 0→s.1 v=-1
theorem Inv.start (nb:Nat→List Nat) {a N:Nat} (h:a < N):Inv nb a N 0 (st nb a 0) where
 mem:=fun v=>by
  simp only[st,List.mem_singleton]
  split<;>simp_all
 walk:=fun v hv=>by
  simp only[st,List.mem_singleton] at hv
  subst hv
  simp only[st,if_pos rfl]
  exact .zero
 mono:=by simp[st]
 near:=fun u hu x hx=>by
  simp only[st,List.mem_singleton] at hu hx
  simp at hu
  subst hu
  subst hx
  omega
 done:=fun k hk=>by omega
 nodup:=by simp[st]
 lt:=fun v hv=>by simp[st] at hv;omega
 root:=by simp[st]
 len:=Nat.zero_le _
 neg:=fun v hv=>by
  simp only[st] at hv ⊢
  split<;>simp_all
theorem Inv.step {nb:Nat→List Nat} {a N i u v:Nat} {s:St} (h:Inv nb a N i s) (hu:s.2[i]?=some u) (hv:v∈nb u) (hN:v < N) :
  Inv nb a N i (step u s v)∧(step u s v).2[i]?=some u∧(∀ w∈s.2,w∈(step u s v).2∧(step u s v).1 w=s.1 w)∧v∈(step u s v).2∧(step u s v).1 v≤(step u s v).1 u+1:=by
 have hum:u∈s.2:=List.mem_of_getElem? hu
 have hu0:=(h.mem u).1 hum
 unfold Bfs.step
 by_cases hneg:s.1 v < 0
 ·rw[if_pos hneg]
  have hvn:v ∉ s.2:=fun hm=>by have:=(h.mem v).1 hm;omega
  have hold:∀ w∈s.2,(if w=v then s.1 u+1 else s.1 w)=s.1 w:=fun w hw=>by
   rw[if_neg (fun e=>hvn (by rw[←e];exact hw))]
  have hget:∀ k x,s.2[k]?=some x→(s.2 ++ [v])[k]?=some x:=fun k x hk=>by
   have hkl:k < s.2.length:=by
    rw[List.getElem?_eq_some_iff] at hk;exact hk.1
   rw[List.getElem?_append_left hkl];exact hk
  have hback:∀ k x,k < s.2.length→(s.2 ++ [v])[k]?=some x→s.2[k]?=some x:=fun k x hkl hk=>by
   rw[List.getElem?_append_left hkl] at hk;exact hk
  have hil:i < s.2.length:=by rw[List.getElem?_eq_some_iff] at hu;exact hu.1
  refine⟨⟨fun w=>?_,fun w hw=>?_,?_,fun u' hu' x hx=>?_,fun k hk u' hu' w hw=>?_,?_,fun w hw=>?_,?_,?_,fun w hw=>?_⟩,hget i u hu,fun w hw=>⟨by simp[hw],hold w hw⟩,by simp,?_⟩
  ·simp only[List.mem_append,List.mem_singleton]
   split
   ·rename_i e;subst e;exact⟨fun _=>by omega,fun _=>.inr rfl⟩
   ·rename_i e
    rw[←h.mem w]
    exact⟨fun hh=>hh.resolve_right e,.inl⟩
  ·simp only[List.mem_append,List.mem_singleton] at hw
   dsimp only
   rcases hw with hw|rfl
   ·rw[hold w hw];exact h.walk w hw
   ·rw[if_pos rfl,show (s.1 u+1).toNat=(s.1 u).toNat+1 by omega]
    exact .succ (h.walk u hum) hv
  ·rw[List.pairwise_append]
   refine⟨h.mono.imp_of_mem (fun {x y} hx hy hxy=>?_),List.pairwise_singleton _ _,fun x hx y hy=>?_⟩
   ·dsimp only;rw[hold x hx,hold y hy];exact hxy
   ·rw[List.mem_singleton] at hy
    subst hy
    dsimp only
    rw[hold x hx,if_pos rfl]
    exact h.near u hu x hx
  ·have e:=hback i u' hil hu'
   rw[hu] at e
   injection e with e
   subst e
   dsimp only
   rw[hold u hum]
   simp only[List.mem_append,List.mem_singleton] at hx
   rcases hx with hx|rfl
   ·rw[hold x hx];exact h.near u hu x hx
   ·rw[if_pos rfl];omega
  ·have e:=hback k u' (by omega) hu'
   obtain⟨d1,d2⟩:=h.done k hk u' e w hw
   dsimp only
   rw[hold w d1,hold u' (List.mem_of_getElem? e)]
   exact⟨by simp[d1],d2⟩
  ·rw[List.nodup_append]
   refine⟨h.nodup,List.nodup_cons.2 ⟨by simp,List.nodup_nil⟩,fun x hx y hy e=>?_⟩
   rw[List.mem_singleton] at hy
   subst hy;subst e
   exact hvn hx
  ·simp only[List.mem_append,List.mem_singleton] at hw
   rcases hw with hw|rfl
   ·exact h.lt w hw
   ·exact hN
  ·dsimp only
   rw[hold a ((h.mem a).2 (by rw[h.root];omega))];exact h.root
  ·simp;have:=h.len;omega
  ·dsimp only at hw ⊢
   split at hw
   ·omega
   ·rename_i e;rw[if_neg e];exact h.neg w hw
  ·dsimp only
   rw[if_pos rfl,hold u hum];omega
 ·rw[if_neg hneg]
  have hvm:v∈s.2:=(h.mem v).2 (by omega)
  exact⟨h,hu,fun w hw=>⟨hw,rfl⟩,hvm,h.near u hu v hvm⟩
theorem Inv.row {nb:Nat→List Nat} {a N i u:Nat}:∀ (row:List Nat) {s:St},Inv nb a N i s→s.2[i]?=some u→(∀ v∈row,v∈nb u∧v < N)→
  Inv nb a N i (row.foldl (Bfs.step u) s)∧(row.foldl (Bfs.step u) s).2[i]?=some u∧(∀ w∈s.2,w∈(row.foldl (Bfs.step u) s).2∧(row.foldl (Bfs.step u) s).1 w=s.1 w)∧∀ v∈row,v∈(row.foldl (Bfs.step u) s).2∧(row.foldl (Bfs.step u) s).1 v≤(row.foldl (Bfs.step u) s).1 u+1
 |[],s,h,hu,_=>⟨h,hu,fun w hw=>⟨hw,rfl⟩,fun v hv=>by cases hv⟩
 |x :: row,s,h,hu,hr=>by
  obtain⟨h1,h2,h3,h4,h5⟩:=h.step hu (hr x (by simp)).1 (hr x (by simp)).2
  obtain⟨g1,g2,g3,g4⟩:=Inv.row row h1 h2 (fun v hv=>hr v (by simp[hv]))
  refine⟨g1,g2,fun w hw=>⟨(g3 w (h3 w hw).1).1,by rw[←(h3 w hw).2];exact (g3 w (h3 w hw).1).2⟩,fun v hv=>?_⟩
  rcases List.mem_cons.1 hv with rfl|hv
  ·have e1:=(g3 v h4).2
   have e2:=(g3 u (List.mem_of_getElem? h2)).2
   simp only[List.foldl_cons]
   rw[e1,e2]
   exact⟨(g3 v h4).1,h5⟩
  ·exact g4 v hv
theorem Inv.next {nb:Nat→List Nat} {a N i u:Nat} {s:St} (h:Inv nb a N i s) (hu:s.2[i]?=some u) (hr:∀ v∈nb u,v < N):Inv nb a N (i+1) ((nb u).foldl (Bfs.step u) s):=by
 obtain⟨h1,h2,h3,h4⟩:=Inv.row (nb u) h hu (fun v hv=>⟨hv,hr v hv⟩)
 have hil:i < ((nb u).foldl (Bfs.step u) s).2.length:=by rw[List.getElem?_eq_some_iff] at h2;exact h2.1
 refine⟨h1.mem,h1.walk,h1.mono,fun u' hu' x hx=>?_,fun k hk u' hu' w hw=>?_,h1.nodup,h1.lt,h1.root,hil,h1.neg⟩
 ·have a1:=h1.near u h2 x hx
  have hil':i+1 < ((nb u).foldl (Bfs.step u) s).2.length:=by rw[List.getElem?_eq_some_iff] at hu';exact hu'.1
  have a2:=List.pairwise_iff_getElem.1 h1.mono i (i+1) hil hil' (by omega)
  rw[List.getElem?_eq_some_iff] at h2 hu'
  obtain⟨_,e1⟩:=h2
  obtain⟨_,e2⟩:=hu'
  rw[e1,e2] at a2
  omega
 ·by_cases e:k=i
  ·subst e
   rw[h2] at hu'
   injection hu' with hu'
   subst hu'
   exact h4 w hw
  ·exact h1.done k (by omega) u' hu' w hw
theorem Walk.trans {nb:Nat→List Nat} {a b:Nat} {k:Nat} (h1:Walk nb a k b):∀ {l c:Nat},Walk nb b l c→Walk nb a (k+l) c:=by
 intro l c h2
 induction h2 with
 |zero=>exact h1
 |succ hw hm ih=>exact .succ ih hm
theorem Walk.symm {nb:Nat→List Nat} (hs:∀ u v,v∈nb u→u∈nb v) {a k b:Nat} (h:Walk nb a k b):Walk nb b k a:=by
 induction h with
 |zero=>exact .zero
 |succ hw hm ih=>
  rename_i k u v
  have:Walk nb v 1 u:=.succ .zero (hs _ _ hm)
  have:=this.trans ih
  rw[Nat.add_comm] at this
  exact this
theorem Walk.nil {nb:Nat→List Nat} {a b:Nat} (h:Walk nb a 0 b):a=b:=by cases h;rfl
theorem Walk.one {nb:Nat→List Nat} {a b:Nat} (h:Walk nb a 1 b):b∈nb a:=by
 cases h with
 |succ hw hm=>rw[hw.nil];exact hm
end Go.Bfs
