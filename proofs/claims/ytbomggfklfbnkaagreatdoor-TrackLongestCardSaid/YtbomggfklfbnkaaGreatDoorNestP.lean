import Derived.Test.YtbomggfklfbnkaaGreatDoorLocQ
import Derived.Test.YtbomggfklfbnkaaGreatDoorHopP
set_option maxRecDepth 100000
set_option maxHeartbeats 8000000
set_option linter.unusedSimpArgs false
set_option linter.unusedVariables false
namespace Go.Proofs.YtbomggfklfbnkaaGreatDoor
open Go.RowKit Go.Grid Go.Maps Go.Sort Go.Shelf
def Step1 (i j k l:Nat):Prop:=(k=i+1∧l=j)∨(k=i∧l=j+1)∨(k=i+1∧j=l+1)
def Adj6 (i j k l:Nat):Prop:=Step1 i j k l∨Step1 k l i j
theorem Adj6.symm {i j k l:Nat} (h:Adj6 i j k l):Adj6 k l i j:=Or.symm h
theorem edge_lat {n:Nat} (h1:1≤n) (h8:n≤8) {e:I2} (he:e∈edgesL n):∃ f i j k l:Nat,f < 20∧i+j≤n∧k+l≤n∧Adj6 i j k l∧e.1=(atL n (lat n f i j):Int)∧e.2=(atL n (lat n f k l):Int):=by
 have hpos:1≤hh n:=hh_pos h1 (by omega)
 obtain⟨c,hc,hec⟩:=mem_edges.1 he
 obtain⟨raw,hraw,rfl⟩:=List.mem_map.1 hc
 have key:∀ (f:Nat) (P:Fin 3→Nat × Nat),f < 20→(∀ x,(P x).1+(P x).2≤n)→(∀ x y,x≠y→Adj6 (P x).1 (P x).2 (P y).1 (P y).2)→
   raw=sorted [(atL n (lat n f (P 0).1 (P 0).2):Int),(atL n (lat n f (P 1).1 (P 1).2):Int),(atL n (lat n f (P 2).1 (P 2).2):Int)]→
   ∃ f i j k l:Nat,f < 20∧i+j≤n∧k+l≤n∧Adj6 i j k l∧e.1=(atL n (lat n f i j):Int)∧e.2=(atL n (lat n f k l):Int):=by
  intro f P hf hP hA hr
  obtain⟨u,v,z,a1,a2,a3,e4⟩:=raw_corner h1 h8 hraw
  have hp:=sorted_perm [(atL n (lat n f (P 0).1 (P 0).2):Int),(atL n (lat n f (P 1).1 (P 1).2):Int),(atL n (lat n f (P 2).1 (P 2).2):Int)]
  have hlen:=hp.length_eq
  rw[←hr] at hp hlen
  have hasc:=cell_asc h1 h8 hc
  match raw,hlen with
  |[c0,c1,c2],_=>
   have hasc2:c0 < c1∧c1 < c2:=hasc
   have hec2:e∈[(c0,c1),(c0,c2),(c1,c2)]:=hec
   have hm:∀ x,x∈[c0,c1,c2]→∃ y:Fin 3,x=(atL n (lat n f (P y).1 (P y).2):Int):=fun x hx=>by
    have:=hp.mem_iff.1 hx
    simp only[List.mem_cons,List.not_mem_nil,or_false] at this
    rcases this with h|h|h
    ·exact⟨0,h⟩
    ·exact⟨1,h⟩
    ·exact⟨2,h⟩
   have fin:∀ x y,x∈[c0,c1,c2]→y∈[c0,c1,c2]→x < y→e=(x,y)→∃ f i j k l:Nat,f < 20∧i+j≤n∧k+l≤n∧Adj6 i j k l∧e.1=(atL n (lat n f i j):Int)∧e.2=(atL n (lat n f k l):Int):=by
    intro x y hx hy hxy hexy
    obtain⟨s,hs⟩:=hm x hx
    obtain⟨t,ht⟩:=hm y hy
    have hst:s≠t:=by rintro rfl;omega
    exact⟨f,(P s).1,(P s).2,(P t).1,(P t).2,hf,hP s,hP t,hA s t hst,by rw[hexy];exact hs,by rw[hexy];exact ht⟩
   simp only[List.mem_cons,List.not_mem_nil,or_false] at hec2
   rcases hec2 with h|h|h
   ·exact fin c0 c1 (by simp) (by simp) hasc2.1 h
   ·exact fin c0 c2 (by simp) (by simp) (by omega) h
   ·exact fin c1 c2 (by simp) (by simp) hasc2.2 h
 have hraw2:=hraw
 simp only[cellsRaw,cF,cA,cB,List.mem_flatMap,List.mem_range] at hraw2
 obtain⟨f,hf,a,ha,b,hb,hcell⟩:=hraw2
 have hab:a+b < n:=by omega
 obtain⟨u1,u2,u3⟩:=lat_up hab f
 unfold cellsAt at hcell
 rcases List.mem_cons.1 hcell with hcell|hcell
 ·refine key f (fun x=>match x with|0=>(a+1,b)|1=>(a,b+1)|2=>(a,b)) hf ?_ ?_ ?_
  ·intro x;match x with|0=>show a+1+b≤n;omega|1=>show a+(b+1)≤n;omega|2=>show a+b≤n;omega
  ·intro x y hxy
   match x,y with
   |0,0=>exact absurd rfl hxy
   |1,1=>exact absurd rfl hxy
   |2,2=>exact absurd rfl hxy
   |0,1=>unfold Adj6 Step1;dsimp only;omega
   |0,2=>unfold Adj6 Step1;dsimp only;omega
   |1,0=>unfold Adj6 Step1;dsimp only;omega
   |1,2=>unfold Adj6 Step1;dsimp only;omega
   |2,0=>unfold Adj6 Step1;dsimp only;omega
   |2,1=>unfold Adj6 Step1;dsimp only;omega
  ·rw[hcell]
   simp only[cpos]
   rw[u1,u2,u3];rfl
 ·split at hcell
  ·rename_i hd
   rw[List.mem_singleton] at hcell
   have hd2:=(down_iff hpos hab).1 hd
   have u4:=lat_down hd2 f
   refine key f (fun x=>match x with|0=>(a,b+1)|1=>(a+1,b)|2=>(a+1,b+1)) hf ?_ ?_ ?_
   ·intro x;match x with|0=>show a+(b+1)≤n;omega|1=>show a+1+b≤n;omega|2=>show a+1+(b+1)≤n;omega
   ·intro x y hxy
    match x,y with
    |0,0=>exact absurd rfl hxy
    |1,1=>exact absurd rfl hxy
    |2,2=>exact absurd rfl hxy
    |0,1=>unfold Adj6 Step1;dsimp only;omega
    |0,2=>unfold Adj6 Step1;dsimp only;omega
    |1,0=>unfold Adj6 Step1;dsimp only;omega
    |1,2=>unfold Adj6 Step1;dsimp only;omega
    |2,0=>unfold Adj6 Step1;dsimp only;omega
    |2,1=>unfold Adj6 Step1;dsimp only;omega
   ·rw[hcell]
    simp only[cpos]
    rw[u1,u2,u4];rfl
  ·cases hcell
theorem lat_step {n f i j k l:Nat} (h1:1≤n) (h8:n≤8) (hf:f < 20) (hij:i+j≤n) (hkl:k+l≤n) (h:Step1 i j k l):atL n (lat n f k l)∈nbG n (atL n (lat n f i j)):=by
 have hn:=hh_mul h1 h8
 have hpos:1≤hh n:=hh_pos h1 (by omega)
 have key:∀ a b,a+b < n→(((i=a+1∧j=b)∨(i=a∧j=b+1)∨(i=a∧j=b))∧((k=a+1∧l=b)∨(k=a∧l=b+1)∨(k=a∧l=b)))→atL n (lat n f k l)∈nbG n (atL n (lat n f i j)):=by
  intro a b hab hh2
  obtain⟨u1,u2,u3⟩:=lat_up hab f
  have hcell:sorted [(atL n (lat n f (a+1) b):Int),(atL n (lat n f a (b+1)):Int),(atL n (lat n f a b):Int)]∈cellsRaw n:=by
   refine cell_in (f:=f) (a:=a) (b:=b) hf hab ?_
   unfold cellsAt cpos
   dsimp only
   rw[u1,u2,u3]
   exact List.mem_cons_self
  rw[mem_nbG h1 h8]
  refine cell_adj h1 h8 hcell ?_ ?_ ?_
  ·rcases hh2.1 with ⟨rfl,rfl⟩|⟨rfl,rfl⟩|⟨rfl,rfl⟩
   ·exact .inl rfl
   ·exact .inr (.inl rfl)
   ·exact .inr (.inr rfl)
  ·rcases hh2.2 with ⟨rfl,rfl⟩|⟨rfl,rfl⟩|⟨rfl,rfl⟩
   ·exact .inl rfl
   ·exact .inr (.inl rfl)
   ·exact .inr (.inr rfl)
  ·intro e
   have e2:=node_inj hn hf hij hkl e
   unfold lat at e2
   injection e2 with e3 e4 e5 e6
   have b1:=Nat.eq_of_mul_eq_mul_right hpos e4
   have b2:=Nat.eq_of_mul_eq_mul_right hpos e5
   unfold Step1 at h
   omega
 unfold Step1 at h
 rcases h with ⟨rfl,rfl⟩|⟨rfl,rfl⟩|⟨rfl,rfl⟩
 ·exact key i l (by omega) ⟨by omega,by omega⟩
 ·exact key k j (by omega) ⟨by omega,by omega⟩
 ·exact key i l (by omega) ⟨by omega,by omega⟩
theorem lat_adj {n f i j k l:Nat} (h1:1≤n) (h8:n≤8) (hf:f < 20) (hij:i+j≤n) (hkl:k+l≤n) (h:Adj6 i j k l):atL n (lat n f k l)∈nbG n (atL n (lat n f i j)):=by
 rcases h with h|h
 ·exact lat_step h1 h8 hf hij hkl h
 ·exact nbG_symm h1 h8 _ _ (lat_step h1 h8 hf hkl hij h)
theorem wt_step {n f i j k l:Nat} (hij:i+j≤n) (hkl:k+l≤n) (h:Adj6 i j k l) (v:Nat):wt (lat n f i j) v≤wt (lat n f k l) v+hh n:=by
 have a:i*hh n≤k*hh n+hh n:=by rw[←Nat.succ_mul];exact Nat.mul_le_mul_right _ (by unfold Adj6 Step1 at h;omega)
 have b:j*hh n≤l*hh n+hh n:=by rw[←Nat.succ_mul];exact Nat.mul_le_mul_right _ (by unfold Adj6 Step1 at h;omega)
 have c:(n-i-j)*hh n≤(n-k-l)*hh n+hh n:=by rw[←Nat.succ_mul];exact Nat.mul_le_mul_right _ (by unfold Adj6 Step1 at h;omega)
 show (if v=(tab f).1 then i*hh n else if v=(tab f).2.1 then j*hh n else if v=(tab f).2.2 then (n-i-j)*hh n else 0)≤(if v=(tab f).1 then k*hh n else if v=(tab f).2.1 then l*hh n else if v=(tab f).2.2 then (n-k-l)*hh n else 0)+hh n
 split
 ·exact a
 ·split
  ·exact b
  ·split
   ·exact c
   ·omega
def fine (n k:Nat):Nat:=atL (2*n) ((nodesL n).getD k ⟨0,0,0,0⟩)
end Go.Proofs.YtbomggfklfbnkaaGreatDoor
