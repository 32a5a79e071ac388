set_option maxRecDepth 100000
set_option maxHeartbeats 8000000
set_option linter.unusedSimpArgs false
set_option linter.unusedVariables false
namespace Go.Grid
structure Pl where
 f:Nat
 a:Nat
 b:Nat
 c:Nat
theorem Pl.ext' {p q:Pl} (h0:p.f=q.f) (h1:p.a=q.a) (h2:p.b=q.b) (h3:p.c=q.c):p=q:=by
 cases p;cases q;simp_all
instance:DecidableEq Pl:=fun p q=>
 if h:p.f=q.f∧p.a=q.a∧p.b=q.b∧p.c=q.c then isTrue (Pl.ext' h.1 h.2.1 h.2.2.1 h.2.2.2)
 else isFalse (fun e=>h (by subst e;exact⟨rfl,rfl,rfl,rfl⟩))
def tab:Nat→Nat × Nat × Nat
 |0=>(0,1,2)|1=>(0,2,3)|2=>(0,3,4)|3=>(0,4,5)|4=>(0,5,1)
 |5=>(1,6,2)|6=>(2,7,3)|7=>(3,8,4)|8=>(4,9,5)|9=>(5,10,1)
 |10=>(6,7,2)|11=>(7,8,3)|12=>(8,9,4)|13=>(9,10,5)|14=>(10,6,1)
 |15=>(11,7,6)|16=>(11,8,7)|17=>(11,9,8)|18=>(11,10,9)|_=>(11,6,10)
theorem tab_lt (f:Nat):(tab f).1 < 12∧(tab f).2.1 < 12∧(tab f).2.2 < 12:=by
 unfold tab;split<;>decide
theorem tab_ne (f:Nat):(tab f).1≠(tab f).2.1∧(tab f).1≠(tab f).2.2∧(tab f).2.1≠(tab f).2.2:=by
 unfold tab;split<;>decide
def wt (p:Pl) (v:Nat):Nat:=if v=(tab p.f).1 then p.a else if v=(tab p.f).2.1 then p.b else if v=(tab p.f).2.2 then p.c else 0
def on (g:Nat) (p:Pl):Pl:=⟨g,wt p (tab g).1,wt p (tab g).2.1,wt p (tab g).2.2⟩
def okB (p:Pl):Bool:=p.a+p.b+p.c == 840
def nface (p:Pl):Option Nat:=(List.range 20).find? (fun g=>okB (on g p))
def normal (p:Pl):Pl:=match nface p with
 |some g=>on g p
 |none=>p
structure Pl.Ok (p:Pl):Prop where
 f:p.f < 20
 s:p.a+p.b+p.c=840
theorem wt_own (p:Pl):wt p (tab p.f).1=p.a∧wt p (tab p.f).2.1=p.b∧wt p (tab p.f).2.2=p.c:=by
 obtain⟨h1,h2,h3⟩:=tab_ne p.f
 unfold wt
 refine⟨by simp,?_,?_⟩
 ·rw[if_neg (Ne.symm h1)];simp
 ·rw[if_neg (Ne.symm h2),if_neg (Ne.symm h3)];simp
theorem on_self (p:Pl):on p.f p=p:=by
 obtain⟨h1,h2,h3⟩:=wt_own p
 exact Pl.ext' rfl h1 h2 h3
def sum12 (h:Nat→Nat):Nat:=h 0+h 1+h 2+h 3+h 4+h 5+h 6+h 7+h 8+h 9+h 10+h 11
theorem tab_mem (f:Nat):tab f∈[(0,1,2),(0,2,3),(0,3,4),(0,4,5),(0,5,1),(1,6,2),(2,7,3),(3,8,4),(4,9,5),(5,10,1),(6,7,2),(7,8,3),(8,9,4),(9,10,5),(10,6,1),(11,7,6),(11,8,7),(11,9,8),(11,10,9),(11,6,10)]:=by
 unfold tab;split<;>decide
theorem sum12_wt (p:Pl):sum12 (wt p)=p.a+p.b+p.c:=by
 have h:=tab_mem p.f
 unfold sum12 wt
 generalize tab p.f=t at h ⊢
 simp only[List.mem_cons,List.not_mem_nil,or_false] at h
 rcases h with rfl|rfl|rfl|rfl|rfl|rfl|rfl|rfl|rfl|rfl|rfl|rfl|rfl|rfl|rfl|rfl|rfl|rfl|rfl|rfl<;>simp<;>omega
theorem rest_zero (h:Nat→Nat) (g:Nat) (hs:sum12 h=h (tab g).1+h (tab g).2.1+h (tab g).2.2):∀ v,v < 12→v≠(tab g).1→v≠(tab g).2.1→v≠(tab g).2.2→h v=0:=by
 have ht:=tab_mem g
 unfold sum12 at hs
 generalize tab g=t at ht hs ⊢
 simp only[List.mem_cons,List.not_mem_nil,or_false] at ht
 intro v hv
 have hv':v=0∨v=1∨v=2∨v=3∨v=4∨v=5∨v=6∨v=7∨v=8∨v=9∨v=10∨v=11:=by omega
 rcases ht with rfl|rfl|rfl|rfl|rfl|rfl|rfl|rfl|rfl|rfl|rfl|rfl|rfl|rfl|rfl|rfl|rfl|rfl|rfl|rfl<;>dsimp only at hs ⊢<;>intro h1 h2 h3 <;>
  rcases hv' with rfl|rfl|rfl|rfl|rfl|rfl|rfl|rfl|rfl|rfl|rfl|rfl<;>first|omega|(exact absurd rfl (by assumption))
theorem wt_on {p:Pl} (hp:p.Ok) {g:Nat} (h:okB (on g p)=true) (v:Nat) (hv:v < 12):wt (on g p) v=wt p v:=by
 have hs:sum12 (wt p)=wt p (tab g).1+wt p (tab g).2.1+wt p (tab g).2.2:=by
  rw[sum12_wt,hp.s];unfold okB on at h;simpa using (beq_iff_eq.1 h).symm
 have h0:=rest_zero (wt p) g hs v hv
 show (if v=(tab g).1 then wt p (tab g).1 else if v=(tab g).2.1 then wt p (tab g).2.1 else if v=(tab g).2.2 then wt p (tab g).2.2 else 0)=wt p v
 by_cases h1:v=(tab g).1
 ·rw[if_pos h1,h1]
 ·by_cases h2:v=(tab g).2.1
  ·rw[if_neg h1,if_pos h2,h2]
  ·by_cases h3:v=(tab g).2.2
   ·rw[if_neg h1,if_neg h2,if_pos h3,h3]
   ·rw[if_neg h1,if_neg h2,if_neg h3,h0 h1 h2 h3]
theorem nface_some {p:Pl} (hp:p.Ok):∃ g,nface p=some g∧g < 20∧okB (on g p)=true∧∀ j,j < g→okB (on j p)=false:=by
 cases h:nface p with
 |none=>
  have:=List.find?_eq_none.1 h p.f (by simpa using hp.f)
  rw[on_self] at this
  simp[okB,hp.s] at this
 |some g=>
  obtain⟨h1,as,bs,h2,h3⟩:=List.find?_eq_some_iff_append.1 h
  have hlen:as.length=g:=by
   have e1:(as ++ g :: bs)[as.length]?=some g:=by simp
   rw[←h2] at e1
   by_cases hl:as.length < 20
   ·rw[List.getElem?_range hl] at e1;injection e1
   ·rw[List.getElem?_eq_none (by simpa using Nat.le_of_not_lt hl)] at e1;cases e1
  have hg:g < 20:=by
   have:g∈List.range 20:=by rw[h2];simp
   simpa using this
  refine⟨g,rfl,hg,h1,fun j hj=>?_⟩
  have e1:(List.range 20)[j]?=some j:=List.getElem?_range (by omega)
  rw[h2,List.getElem?_append_left (by omega)] at e1
  have:=h3 j (List.mem_of_getElem? e1)
  simpa using this
theorem nface_first {p:Pl} (hp:p.Ok) {g:Nat} (hg:g < 20) (h1:okB (on g p)=true) (h2:∀ j,j < g→okB (on j p)=false):nface p=some g:=by
 obtain⟨g',e,h3,h4,h5⟩:=nface_some hp
 rw[e]
 have a1:¬ g < g':=fun h=>by rw[h5 g h] at h1;cases h1
 have a2:¬ g' < g:=fun h=>by rw[h2 g' h] at h4;cases h4
 rw[show g'=g by omega]
theorem normal_first {p:Pl} (hp:p.Ok) {g:Nat} (hg:g < 20) (h1:okB (on g p)=true) (h2:∀ j,j < g→okB (on j p)=false):normal p=on g p:=by
 unfold normal;rw[nface_first hp hg h1 h2]
theorem normal_ok {p:Pl} (hp:p.Ok):(normal p).Ok:=by
 obtain⟨g,e,h1,h2,_⟩:=nface_some hp
 unfold normal;rw[e]
 exact⟨h1,by simpa[okB] using h2⟩
theorem wt_normal {p:Pl} (hp:p.Ok) (v:Nat) (hv:v < 12):wt (normal p) v=wt p v:=by
 obtain⟨g,e,h1,h2,_⟩:=nface_some hp
 unfold normal;rw[e]
 exact wt_on hp h2 v hv
theorem on_congr {p q:Pl} (h:∀ v,v < 12→wt p v=wt q v) (g:Nat):on g p=on g q:=by
 obtain⟨h1,h2,h3⟩:=tab_lt g
 exact Pl.ext' rfl (h _ h1) (h _ h2) (h _ h3)
theorem normal_congr {p q:Pl} (hp:p.Ok) (hq:q.Ok) (h:∀ v,v < 12→wt p v=wt q v):normal p=normal q:=by
 obtain⟨g,e,h1,h2,h3⟩:=nface_some hp
 have e1:normal p=on g p:=normal_first hp h1 h2 h3
 have e2:normal q=on g q:=normal_first hq h1 (by rw[←on_congr h];exact h2) (fun j hj=>by rw[←on_congr h];exact h3 j hj)
 rw[e1,e2,on_congr h]
theorem normal_normal {p:Pl} (hp:p.Ok):normal (normal p)=normal p:=normal_congr (normal_ok hp) hp (wt_normal hp)
theorem normal_inj {p q:Pl} (hp:p.Ok) (hq:q.Ok) (h:normal p=normal q) (v:Nat) (hv:v < 12):wt p v=wt q v:=by
 rw[←wt_normal hp v hv,←wt_normal hq v hv,h]
theorem normal_inj_face {p q:Pl} (hp:p.Ok) (hq:q.Ok) (hf:p.f=q.f) (h:normal p=normal q):p=q:=by
 obtain⟨t1,t2,t3⟩:=tab_lt p.f
 obtain⟨a1,a2,a3⟩:=wt_own p
 obtain⟨b1,b2,b3⟩:=wt_own q
 have k1:=normal_inj hp hq h _ t1
 have k2:=normal_inj hp hq h _ t2
 have k3:=normal_inj hp hq h _ t3
 rw[a1,hf,b1] at k1
 rw[a2,hf,b2] at k2
 rw[a3,hf,b3] at k3
 exact Pl.ext' hf k1 k2 k3
theorem normal_face {p:Pl} (hp:p.Ok) (h:(normal p).f=p.f):normal p=p:=by
 obtain⟨g,e,h1,h2,h3⟩:=nface_some hp
 have e1:=normal_first hp h1 h2 h3
 rw[e1] at h ⊢
 have:g=p.f:=h
 subst this
 exact on_self p
def hh (n:Nat):Nat:=840 / n
def lat (n f a b:Nat):Pl:=⟨f,a*hh n,b*hh n,(n-a-b)*hh n⟩
def rowB (n f a k:Nat):List Pl:=(List.range k).map (lat n f a)
def rowA (n f k:Nat):List Pl:=(List.range k).flatMap (fun a=>rowB n f a (n+1-a))
def faces (n k:Nat):List Pl:=(List.range k).flatMap (fun f=>rowA n f (n+1))
def isN (p:Pl):Bool:=decide (normal p=p)
def nodesL (n:Nat):List Pl:=(faces n 20).filter isN
def sofar (n f a b:Nat):List Pl:=(faces n f ++ (rowA n f a ++ rowB n f a b)).filter isN
theorem rowB_succ (n f a k:Nat):rowB n f a (k+1)=rowB n f a k ++ [lat n f a k]:=by simp[rowB,List.range_succ]
theorem rowA_succ (n f k:Nat):rowA n f (k+1)=rowA n f k ++ rowB n f k (n+1-k):=by simp[rowA,List.range_succ,List.flatMap_append]
theorem faces_succ (n k:Nat):faces n (k+1)=faces n k ++ rowA n k (n+1):=by simp[faces,List.range_succ,List.flatMap_append]
theorem sofar_yes {n f a b:Nat} (h:isN (lat n f a b)=true):sofar n f a (b+1)=sofar n f a b ++ [lat n f a b]:=by
 unfold sofar
 rw[rowB_succ,←List.append_assoc,←List.append_assoc,List.filter_append,List.append_assoc]
 simp[h]
theorem sofar_no {n f a b:Nat} (h:isN (lat n f a b)=false):sofar n f a (b+1)=sofar n f a b:=by
 unfold sofar
 rw[rowB_succ,←List.append_assoc,←List.append_assoc,List.filter_append,List.append_assoc]
 simp[h]
theorem sofar_row (n f a:Nat):sofar n f a (n+1-a)=sofar n f (a+1) 0:=by
 unfold sofar;rw[rowA_succ];simp[rowB]
theorem sofar_face (n f:Nat):sofar n f (n+1) 0=sofar n (f+1) 0 0:=by
 unfold sofar;rw[faces_succ];simp[rowB,rowA]
theorem sofar_start (n:Nat):sofar n 0 0 0=[]:=by simp[sofar,faces,rowA,rowB]
theorem sofar_end (n:Nat):sofar n 20 0 0=nodesL n:=by simp[sofar,nodesL,rowA,rowB]
def Before (p q:Pl):Prop:=p.f < q.f∨p.f=q.f∧(p.a < q.a∨p.a=q.a∧p.b < q.b)
theorem Before.ne {p q:Pl} (h:Before p q):p≠q:=by
 rintro rfl;unfold Before at h;omega
theorem hh_pos {n:Nat} (h1:1≤n) (h2:n≤840):0 < hh n:=Nat.div_pos h2 (by omega)
theorem mem_rowB {n f a k:Nat} {p:Pl} (h:p∈rowB n f a k):∃ b,b < k∧p=lat n f a b:=by
 simp only[rowB,List.mem_map,List.mem_range] at h
 obtain⟨b,hb,rfl⟩:=h;exact⟨b,hb,rfl⟩
theorem mem_rowA {n f k:Nat} {p:Pl} (h:p∈rowA n f k):∃ a b,a < k∧b < n+1-a∧p=lat n f a b:=by
 simp only[rowA,List.mem_flatMap,List.mem_range] at h
 obtain⟨a,ha,h⟩:=h
 obtain⟨b,hb,e⟩:=mem_rowB h
 exact⟨a,b,ha,hb,e⟩
theorem mem_faces {n k:Nat} {p:Pl} (h:p∈faces n k):∃ f a b,f < k∧a+b≤n∧p=lat n f a b:=by
 simp only[faces,List.mem_flatMap,List.mem_range] at h
 obtain⟨f,hf,h⟩:=h
 obtain⟨a,b,h1,h2,e⟩:=mem_rowA h
 exact⟨f,a,b,hf,by omega,e⟩
theorem lat_mem {n f a b k:Nat} (hf:f < k) (h:a+b≤n):lat n f a b∈faces n k:=by
 simp only[faces,rowA,rowB,List.mem_flatMap,List.mem_map,List.mem_range]
 exact⟨f,hf,a,by omega,b,by omega,rfl⟩
theorem sorted_faces {n:Nat} (h1:1≤n) (h2:n≤840) (k:Nat):(faces n k).Pairwise Before:=by
 have hp:=hh_pos h1 h2
 unfold faces
 rw[List.pairwise_flatMap]
 refine⟨fun f _=>?_,?_⟩
 ·unfold rowA
  rw[List.pairwise_flatMap]
  refine⟨fun a _=>?_,?_⟩
  ·unfold rowB
   rw[List.pairwise_map]
   refine List.Pairwise.imp ?_ (List.pairwise_lt_range)
   intro b b' hb
   exact .inr ⟨rfl,.inr ⟨rfl,Nat.mul_lt_mul_of_pos_right hb hp⟩⟩
  ·refine List.Pairwise.imp ?_ (List.pairwise_lt_range)
   intro a a' ha x hx y hy
   obtain⟨_,_,rfl⟩:=mem_rowB hx
   obtain⟨_,_,rfl⟩:=mem_rowB hy
   exact .inr ⟨rfl,.inl (Nat.mul_lt_mul_of_pos_right ha hp)⟩
 ·refine List.Pairwise.imp ?_ (List.pairwise_lt_range)
  intro f f' hf x hx y hy
  obtain⟨_,_,_,_,rfl⟩:=mem_rowA hx
  obtain⟨_,_,_,_,rfl⟩:=mem_rowA hy
  exact .inl hf
theorem sorted_nodes {n:Nat} (h1:1≤n) (h2:n≤840):(nodesL n).Pairwise Before:=(sorted_faces h1 h2 20).filter _
theorem before_lat {n f a b:Nat} (h1:1≤n) (h2:n≤840):∀ q∈sofar n f a b,Before q (lat n f a b):=by
 have hp:=hh_pos h1 h2
 intro q hq
 have hq:=(List.mem_filter.1 hq).1
 rcases List.mem_append.1 hq with hq|hq
 ·obtain⟨f',a',b',hf,_,rfl⟩:=mem_faces hq
  exact .inl hf
 ·rcases List.mem_append.1 hq with hq|hq
  ·obtain⟨a',b',ha,_,rfl⟩:=mem_rowA hq
   exact .inr ⟨rfl,.inl (Nat.mul_lt_mul_of_pos_right ha hp)⟩
  ·obtain⟨b',hb,rfl⟩:=mem_rowB hq
   exact .inr ⟨rfl,.inr ⟨rfl,Nat.mul_lt_mul_of_pos_right hb hp⟩⟩
theorem lat_new {n f a b:Nat} (h1:1≤n) (h2:n≤840):lat n f a b ∉ sofar n f a b:=fun h=>(before_lat h1 h2 _ h).ne rfl
theorem len_rowA (n f:Nat):∀ k,(rowA n f k).length≤k*(n+1)
 |0=>by simp[rowA]
 |k+1=>by
  have:=len_rowA n f k
  rw[rowA_succ,List.length_append,Nat.succ_mul]
  have:(rowB n f k (n+1-k)).length=n+1-k:=by simp[rowB]
  omega
theorem len_faces (n:Nat):∀ k,(faces n k).length≤k*((n+1)*(n+1))
 |0=>by simp[faces]
 |k+1=>by
  have:=len_faces n k
  have:=len_rowA n k (n+1)
  rw[faces_succ,List.length_append,Nat.succ_mul]
  omega
theorem len_sofar {n f a b:Nat} (hn:n≤8) (hf:f < 20) (ha:a≤n+1) (hb:b≤n+1):(sofar n f a b).length≤2000:=by
 have h1:(sofar n f a b).length≤(faces n f ++ (rowA n f a ++ rowB n f a b)).length:=List.length_filter_le _ _
 have h2:=len_faces n f
 have h3:=len_rowA n f a
 have h4:(rowB n f a b).length=b:=by simp[rowB]
 rw[List.length_append,List.length_append] at h1
 have h5:f*((n+1)*(n+1))≤19*(9*9):=Nat.mul_le_mul (by omega) (Nat.mul_le_mul (by omega) (by omega))
 have h6:a*(n+1)≤9*9:=Nat.mul_le_mul (by omega) (by omega)
 omega
theorem lat_ok {n f a b:Nat} (hn:n*hh n=840) (hf:f < 20) (h:a+b≤n):(lat n f a b).Ok:=by
 refine⟨hf,?_⟩
 show a*hh n+b*hh n+(n-a-b)*hh n=840
 rw[←Nat.add_mul,←Nat.add_mul,show a+b+(n-a-b)=n by omega,hn]
theorem hh_mul {n:Nat} (h1:1≤n) (h2:n≤8):n*hh n=840:=by
 have:n=1∨n=2∨n=3∨n=4∨n=5∨n=6∨n=7∨n=8:=by omega
 rcases this with rfl|rfl|rfl|rfl|rfl|rfl|rfl|rfl<;>rfl
theorem lat_of {n:Nat} (hn:n*hh n=840) {p:Pl} (hp:p.Ok) (ha:hh n ∣ p.a) (hb:hh n ∣ p.b):∃ a b,a+b≤n∧p=lat n p.f a b:=by
 obtain⟨a,ha⟩:=ha
 obtain⟨b,hb⟩:=hb
 have hs:=hp.s
 have h0:0 < hh n:=by
  rcases Nat.eq_zero_or_pos (hh n) with h|h
  ·rw[h] at hn;omega
  ·exact h
 have hab:a+b≤n:=by
  have:hh n*(a+b)≤hh n*n:=by rw[Nat.mul_add,←ha,←hb,Nat.mul_comm _ n,hn];omega
  exact Nat.le_of_mul_le_mul_left this h0
 refine⟨a,b,hab,Pl.ext' rfl (by rw[ha,Nat.mul_comm];rfl) (by rw[hb,Nat.mul_comm];rfl) ?_⟩
 show p.c=(n-a-b)*hh n
 have:(n-a-b)*hh n+hh n*a+hh n*b=840:=by
  rw[Nat.mul_comm _ a,Nat.mul_comm _ b,←Nat.add_mul,←Nat.add_mul,show n-a-b+a+b=n by omega,hn]
 omega
theorem wt_dvd {h:Nat} {p:Pl} (ha:h ∣ p.a) (hb:h ∣ p.b) (hc:h ∣ p.c) (v:Nat):h ∣ wt p v:=by
 unfold wt
 split
 ·exact ha
 ·split
  ·exact hb
  ·split
   ·exact hc
   ·exact Nat.dvd_zero _
theorem normal_mem {n f a b:Nat} (hn:n*hh n=840) (hf:f < 20) (hab:a+b≤n):normal (lat n f a b)∈nodesL n:=by
 have hp:=lat_ok hn hf hab
 have d1:hh n ∣ (lat n f a b).a:=⟨a,Nat.mul_comm _ _⟩
 have d2:hh n ∣ (lat n f a b).b:=⟨b,Nat.mul_comm _ _⟩
 have d3:hh n ∣ (lat n f a b).c:=⟨n-a-b,Nat.mul_comm _ _⟩
 obtain⟨g,e,h1,h2,h3⟩:=nface_some hp
 have en:normal (lat n f a b)=on g (lat n f a b):=normal_first hp h1 h2 h3
 have hq:=normal_ok hp
 obtain⟨a',b',h4,h5⟩:=lat_of hn hq (by rw[en];exact wt_dvd d1 d2 d3 _) (by rw[en];exact wt_dvd d1 d2 d3 _)
 refine List.mem_filter.2 ⟨?_,by simp[isN,normal_normal hp]⟩
 rw[h5]
 exact lat_mem hq.f h4
def ix (L:List Pl) (p:Pl):Option Nat:=L.findIdx? (fun q=>decide (q=p))
theorem ix_snoc_old {L:List Pl} {p q:Pl} (h:q≠p):ix (L ++ [p]) q=ix L q:=by
 unfold ix
 rw[List.findIdx?_append]
 have:List.findIdx? (fun r=>decide (r=q)) [p]=none:=by simp[List.findIdx?_cons,Ne.symm h]
 rw[this];simp
theorem ix_none {L:List Pl} {p:Pl} (h:p ∉ L):ix L p=none:=by
 unfold ix
 rw[List.findIdx?_eq_none_iff]
 intro x hx
 simp;rintro rfl;exact h hx
theorem ix_snoc_new {L:List Pl} {p:Pl} (h:p ∉ L):ix (L ++ [p]) p=some L.length:=by
 have:=ix_none h
 unfold ix at *
 rw[List.findIdx?_append,this]
 simp[List.findIdx?_cons]
theorem ix_some {L:List Pl} {p:Pl} {i:Nat} (h:ix L p=some i):∃ hi:i < L.length,L[i]=p:=by
 obtain⟨h1,h2,_⟩:=List.findIdx?_eq_some_iff_getElem.1 h
 exact⟨h1,by simpa using h2⟩
theorem ix_mem {L:List Pl} {p:Pl} (h:p∈L):∃ i,ix L p=some i∧∃ hi:i < L.length,L[i]=p:=by
 cases e:ix L p with
 |none=>
  unfold ix at e
  have:=List.findIdx?_eq_none_iff.1 e p h
  simp at this
 |some i=>exact⟨i,rfl,ix_some e⟩
theorem ix_get {L:List Pl} (hs:L.Pairwise Before) {i:Nat} (hi:i < L.length):ix L L[i]=some i:=by
 obtain⟨j,e,hj,h⟩:=ix_mem (List.getElem_mem hi)
 rw[e]
 have key:∀ a b (ha:a < L.length) (hb:b < L.length),a < b→L[a]≠L[b]:=fun a b ha hb hab=>(List.pairwise_iff_getElem.1 hs a b ha hb hab).ne
 have:¬ i < j:=fun h'=>key i j hi hj h' h.symm
 have:¬ j < i:=fun h'=>key j i hj hi h' h
 rw[show j=i by omega]
def atL (n:Nat) (p:Pl):Nat:=(ix (nodesL n) (normal p)).getD 0
theorem atL_lat {n f a b:Nat} (hn:n*hh n=840) (hf:f < 20) (hab:a+b≤n):ix (nodesL n) (normal (lat n f a b))=some (atL n (lat n f a b))∧∃ h:atL n (lat n f a b) < (nodesL n).length,(nodesL n)[atL n (lat n f a b)]=normal (lat n f a b):=by
 obtain⟨i,e,hi,h⟩:=ix_mem (normal_mem hn hf hab)
 have:atL n (lat n f a b)=i:=by unfold atL;rw[e];rfl
 rw[this]
 exact⟨e,hi,h⟩
end Go.Grid
