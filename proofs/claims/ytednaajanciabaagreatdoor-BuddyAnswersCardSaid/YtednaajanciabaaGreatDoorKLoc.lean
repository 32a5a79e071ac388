import Derived.Test.YtednaajanciabaaGreatDoorGrid
set_option maxRecDepth 100000
set_option maxHeartbeats 8000000
set_option linter.unusedSimpArgs false
set_option linter.unusedVariables false
namespace Go.Grid
def locAll (n:Nat) (p:Pl):List (Pl × Nat):=
 let h:=hh n
 let x:=p.a % h*n
 let y:=p.b % h*n
 let z:=p.c % h*n
 if x+y+z=0 then [(p,840)]
 else if x+y+z=840 then
  [(⟨p.f,p.a-p.a % h+h,p.b-p.b % h,p.c-p.c % h⟩,x),(⟨p.f,p.a-p.a % h,p.b-p.b % h+h,p.c-p.c % h⟩,y),(⟨p.f,p.a-p.a % h,p.b-p.b % h,p.c-p.c % h+h⟩,z)]
 else
  [(⟨p.f,p.a-p.a % h,p.b-p.b % h+h,p.c-p.c % h+h⟩,840-x),(⟨p.f,p.a-p.a % h+h,p.b-p.b % h,p.c-p.c % h+h⟩,840-y),(⟨p.f,p.a-p.a % h+h,p.b-p.b % h+h,p.c-p.c % h⟩,840-z)]
def locRaw (n:Nat) (p:Pl):List (Nat × Nat):=((locAll n p).filter (fun c=>decide (0 < c.2))).map (fun c=>(atL n c.1,c.2))
theorem rem_sum {n:Nat} {p:Pl} (h1:1≤n) (hn:n*hh n=840) (hp:p.Ok) :
  p.a % hh n*n+p.b % hh n*n+p.c % hh n*n=0∨p.a % hh n*n+p.b % hh n*n+p.c % hh n*n=840∨p.a % hh n*n+p.b % hh n*n+p.c % hh n*n=1680:=by
 have hpos:0 < hh n:=by
  rcases Nat.eq_zero_or_pos (hh n) with h|h
  ·rw[h] at hn;omega
  ·exact h
 have hs:=hp.s
 have e:p.a % hh n*n+p.b % hh n*n+p.c % hh n*n=(p.a % hh n+p.b % hh n+p.c % hh n)*n:=by rw[Nat.add_mul,Nat.add_mul]
 have la:=Nat.mod_lt p.a hpos
 have lb:=Nat.mod_lt p.b hpos
 have lc:=Nat.mod_lt p.c hpos
 have da:=Nat.div_add_mod p.a (hh n)
 have db:=Nat.div_add_mod p.b (hh n)
 have dc:=Nat.div_add_mod p.c (hh n)
 have hd:hh n ∣ p.a % hh n+p.b % hh n+p.c % hh n:=by
  have:hh n ∣ hh n*(p.a / hh n+p.b / hh n+p.c / hh n)+(p.a % hh n+p.b % hh n+p.c % hh n):=by
   rw[Nat.mul_add,Nat.mul_add,show hh n*(p.a / hh n)+hh n*(p.b / hh n)+hh n*(p.c / hh n)+(p.a % hh n+p.b % hh n+p.c % hh n)=p.a+p.b+p.c by omega,hs,←hn]
   exact Nat.dvd_mul_left _ _
  exact (Nat.dvd_add_right (Nat.dvd_mul_right _ _)).1 this
 obtain⟨k,hk⟩:=hd
 have hk3:k < 3:=by
  apply Nat.lt_of_mul_lt_mul_left (a:=hh n)
  omega
 rw[e,hk,show hh n*k*n=(n*hh n)*k by rw[Nat.mul_comm (hh n*k),Nat.mul_assoc],hn]
 have:k=0∨k=1∨k=2:=by omega
 omega
theorem rem_le {n:Nat} {a:Nat} (h1:1≤n) (hn:n*hh n=840):a % hh n*n < 840:=by
 have hpos:0 < hh n:=by
  rcases Nat.eq_zero_or_pos (hh n) with h|h
  ·rw[h] at hn;omega
  ·exact h
 rw[←hn,Nat.mul_comm n]
 exact Nat.mul_lt_mul_of_pos_right (Nat.mod_lt a hpos) h1
theorem rem_zero {n a:Nat} (h1:1≤n) (h:a % hh n*n=0):a % hh n=0:=by
 rcases Nat.mul_eq_zero.1 h with h|h
 ·exact h
 ·omega
theorem dvd_base (a h:Nat):h ∣ a-a % h:=by
 rw[show a-a % h=h*(a / h) by have:=Nat.div_add_mod a h;omega];exact Nat.dvd_mul_right _ _
theorem loc_ok {n:Nat} {p:Pl} (h1:1≤n) (hn:n*hh n=840) (hp:p.Ok):∀ c∈locAll n p,c.1.Ok∧c.1.f=p.f∧∃ i j,i+j≤n∧c.1=lat n p.f i j:=by
 have hs:=hp.s
 have hf:=hp.f
 have key:∀ q:Pl,q.f=p.f→q.a+q.b+q.c=840→hh n ∣ q.a→hh n ∣ q.b→q.Ok∧q.f=p.f∧∃ i j,i+j≤n∧q=lat n p.f i j:=by
  intro q h2 h3 h4 h5
  have hq:q.Ok:=⟨by omega,h3⟩
  obtain⟨i,j,h6,h7⟩:=lat_of hn hq h4 h5
  exact⟨hq,h2,i,j,h6,by rw[←h2];exact h7⟩
 have ma:=Nat.mod_le p.a (hh n)
 have mb:=Nat.mod_le p.b (hh n)
 have mc:=Nat.mod_le p.c (hh n)
 have ba:=dvd_base p.a (hh n)
 have bb:=dvd_base p.b (hh n)
 have ca:=Nat.dvd_add ba (Nat.dvd_refl (hh n))
 have cb:=Nat.dvd_add bb (Nat.dvd_refl (hh n))
 have e:p.a % hh n*n+p.b % hh n*n+p.c % hh n*n=(p.a % hh n+p.b % hh n+p.c % hh n)*n:=by rw[Nat.add_mul,Nat.add_mul]
 intro c hc
 unfold locAll at hc
 dsimp only at hc
 split at hc
 ·rename_i h0
  simp only[List.mem_cons,List.not_mem_nil,or_false] at hc
  subst hc
  exact key p rfl hs (Nat.dvd_of_mod_eq_zero (rem_zero h1 (by omega))) (Nat.dvd_of_mod_eq_zero (rem_zero h1 (by omega)))
 ·split at hc
  ·rename_i h0 h2
   have e2:p.a % hh n+p.b % hh n+p.c % hh n=hh n:=by
    rw[e,←hn,Nat.mul_comm n] at h2
    exact Nat.eq_of_mul_eq_mul_right (by omega) h2
   simp only[List.mem_cons,List.not_mem_nil,or_false] at hc
   rcases hc with rfl|rfl|rfl
   ·exact key _ rfl (by dsimp only;omega) ca bb
   ·exact key _ rfl (by dsimp only;omega) ba cb
   ·exact key _ rfl (by dsimp only;omega) ba bb
  ·rename_i h0 h2
   have h3:p.a % hh n*n+p.b % hh n*n+p.c % hh n*n=1680:=by
    rcases rem_sum h1 hn hp with h|h|h
    ·exact absurd h h0
    ·exact absurd h h2
    ·exact h
   have e2:p.a % hh n+p.b % hh n+p.c % hh n=hh n+hh n:=by
    rw[e,show 1680=(hh n+hh n)*n by rw[Nat.add_mul,Nat.mul_comm (hh n),hn]] at h3
    exact Nat.eq_of_mul_eq_mul_right (by omega) h3
   simp only[List.mem_cons,List.not_mem_nil,or_false] at hc
   rcases hc with rfl|rfl|rfl
   ·exact key _ rfl (by dsimp only;omega) ba cb
   ·exact key _ rfl (by dsimp only;omega) ca bb
   ·exact key _ rfl (by dsimp only;omega) ca cb
theorem node_inj {n f i j k l:Nat} (hn:n*hh n=840) (hf:f < 20) (h1:i+j≤n) (h2:k+l≤n) (h:atL n (lat n f i j)=atL n (lat n f k l)):lat n f i j=lat n f k l:=by
 obtain⟨_,ha,ea⟩:=atL_lat hn hf h1
 obtain⟨_,hb,eb⟩:=atL_lat hn hf h2
 have:normal (lat n f i j)=normal (lat n f k l):=by rw[←ea,←eb];congr 1
 exact normal_inj_face (lat_ok hn hf h1) (lat_ok hn hf h2) rfl this
theorem loc_distinct {n:Nat} {p:Pl} (h1:1≤n) (h2:n≤840) (hn:n*hh n=840) (hp:p.Ok):(locAll n p).Pairwise (fun c d=>atL n c.1≠atL n d.1):=by
 have hk:=loc_ok h1 hn hp
 have hpos:=hh_pos h1 h2
 have hne:∀ c∈locAll n p,∀ d∈locAll n p,c.1≠d.1→atL n c.1≠atL n d.1:=by
  intro c hc d hd hcd he
  obtain⟨_,_,i,j,h3,e1⟩:=hk c hc
  obtain⟨_,_,k,l,h4,e2⟩:=hk d hd
  rw[e1,e2] at he hcd
  exact hcd (node_inj hn hp.f h3 h4 he)
 have hd:(locAll n p).Pairwise (fun c d=>c.1≠d.1):=by
  unfold locAll
  dsimp only
  split
  ·simp
  ·split<;>simp<;>omega
 exact hd.imp_of_mem (fun ha hb hab=>hne _ ha _ hb hab)
theorem loc_nodes {n:Nat} {p:Pl} (h1:1≤n) (hn:n*hh n=840) (hp:p.Ok):∀ c∈locRaw n p,c.1 < (nodesL n).length∧0 < c.2∧c.2≤840:=by
 intro c hc
 simp only[locRaw,List.mem_map,List.mem_filter,decide_eq_true_eq] at hc
 obtain⟨d,⟨hd,hw⟩,rfl⟩:=hc
 obtain⟨_,_,i,j,h3,e1⟩:=loc_ok h1 hn hp d hd
 obtain⟨_,hb,_⟩:=atL_lat hn hp.f h3
 refine⟨by rw[e1];exact hb,hw,?_⟩
 have ra:=rem_le (a:=p.a) h1 hn
 have rb:=rem_le (a:=p.b) h1 hn
 have rc:=rem_le (a:=p.c) h1 hn
 unfold locAll at hd
 dsimp only at hd
 split at hd
 ·simp only[List.mem_cons,List.not_mem_nil,or_false] at hd;subst hd;exact Nat.le_refl _
 ·split at hd<;>simp only[List.mem_cons,List.not_mem_nil,or_false] at hd<;>rcases hd with rfl|rfl|rfl<;>dsimp only<;>omega
theorem loc_keys {n:Nat} {p:Pl} (h1:1≤n) (h2:n≤840) (hn:n*hh n=840) (hp:p.Ok):(locRaw n p).Pairwise (fun c d=>c.1≠d.1):=by
 unfold locRaw
 rw[List.pairwise_map]
 exact (loc_distinct h1 h2 hn hp).filter _
def wsum:List (Nat × Nat)→Nat
 |[]=>0
 |c :: l=>c.2+wsum l
theorem loc_sum {n:Nat} {p:Pl} (h1:1≤n) (hn:n*hh n=840) (hp:p.Ok):wsum (locRaw n p)=840:=by
 have key:∀ l:List (Pl × Nat),wsum ((l.filter (fun c=>decide (0 < c.2))).map (fun c=>(atL n c.1,c.2)))=(l.map (fun c=>c.2)).sum:=by
  intro l
  induction l with
  |nil=>rfl
  |cons c l ih=>
   by_cases h:0 < c.2
   ·simp[List.filter_cons,h,wsum,ih]
   ·simp[List.filter_cons,h,ih];omega
 unfold locRaw
 rw[key]
 have ra:=rem_le (a:=p.a) h1 hn
 have rb:=rem_le (a:=p.b) h1 hn
 have rc:=rem_le (a:=p.c) h1 hn
 unfold locAll
 dsimp only
 split
 ·simp
 ·split
  ·simp;omega
  ·rename_i h0 h2
   have h3:p.a % hh n*n+p.b % hh n*n+p.c % hh n*n=1680:=by
    rcases rem_sum h1 hn hp with h|h|h
    ·exact absurd h h0
    ·exact absurd h h2
    ·exact h
   simp;omega
theorem loc_ne {n:Nat} {p:Pl} (h1:1≤n) (hn:n*hh n=840) (hp:p.Ok):locRaw n p≠[]:=by
 intro h
 have:=loc_sum h1 hn hp
 rw[h] at this;simp[wsum] at this
end Go.Grid
namespace Go.Grid
def bestL:List (Nat × Nat)→Nat × Nat→Nat × Nat
 |[],b=>b
 |y :: l,b=>bestL l (if b.2 < y.2 then y else b)
theorem bestL_snoc (y:Nat × Nat):∀ (l:List (Nat × Nat)) b,bestL (l ++ [y]) b=if (bestL l b).2 < y.2 then y else bestL l b
 |[],b=>rfl
 |z :: l,b=>by simp only[List.cons_append,bestL];exact bestL_snoc y l _
theorem bestL_take {S:List (Nat × Nat)} {k:Nat} (hk:k < S.length) (b:Nat × Nat):bestL (S.take (k+1)) b=if (bestL (S.take k) b).2 < S[k].2 then S[k] else bestL (S.take k) b:=by
 rw[List.take_succ_eq_append_getElem hk,bestL_snoc]
theorem best_mem:∀ (l:List (Nat × Nat)) b,bestL l b=b∨bestL l b∈l
 |[],b=>.inl rfl
 |y :: l,b=>by
  rcases best_mem l (if b.2 < y.2 then y else b) with h|h
  ·simp only[bestL,h]
   split
   ·exact .inr (by simp)
   ·exact .inl rfl
  ·exact .inr (List.mem_cons_of_mem _ h)
def Asc (S:List (Nat × Nat)):Prop:=S.Pairwise (fun c d=>c.1 < d.1)
def mostL:List (Nat × Nat)→Nat→Nat
 |[],m=>m
 |y :: l,m=>mostL l (max m y.2)
def ownL (k:Nat):List (Nat × Nat)→Nat→Nat
 |[],o=>o
 |y :: l,o=>ownL k l (if y.1=k then y.2 else o)
def best (S:List (Nat × Nat)):Nat × Nat:=bestL S.tail (S.headD (0,0))
theorem asc_unique {S T:List (Nat × Nat)} (hS:Asc S) (hT:Asc T) (h:S.Perm T):S=T:=
 List.Perm.eq_of_pairwise (fun (a b:Nat × Nat) _ _ (h1:a.1 < b.1) (h2:b.1 < a.1)=>by omega) hS hT h
theorem asc_of_le {S:List (Nat × Nat)} (h1:S.Pairwise (fun c d=>c.1≤d.1)) (h2:S.Pairwise (fun c d=>c.1≠d.1)):Asc S:=
 (List.pairwise_and_iff.2 ⟨h1,h2⟩).imp (fun h=>by omega)
end Go.Grid
