import Derived.Test.YtednaajanciabaaGreatDoorGrid
set_option maxRecDepth 100000
set_option maxHeartbeats 8000000
set_option linter.unusedSimpArgs false
set_option linter.unusedVariables false
namespace Go.Chain
def bestOf (P:Nat→Nat→Bool) (i:Nat):Nat→List Nat→Nat
 |_,[]=>0
 |k,l :: t=>max (if P i k then l else 0) (bestOf P i (k+1) t)
def lensT (P:Nat→Nat→Bool):Nat→Nat→List Nat
 |_,0=>[]
 |i,m+1=>(1+bestOf P i (i+1) (lensT P (i+1) m)) :: lensT P (i+1) m
def scanD (P:Nat→Nat→Bool) (i:Nat):Nat→List Nat→Nat × Option Nat
 |_,[]=>(1,none)
 |k,l :: t=>if (scanD P i (k+1) t).1≤l+1∧P i k=true then (l+1,some k) else scanD P i (k+1) t
def firstAt (Q:Nat→Bool) (L:Nat):Nat→List Nat→Option Nat
 |_,[]=>none
 |k,l :: t=>if l=L∧Q k=true then some k else firstAt Q L (k+1) t
def mostOf:List Nat→Nat
 |[]=>0
 |l :: t=>max l (mostOf t)
def greedy (P:Nat→Nat→Bool):Option Nat→Nat→Nat→List Nat→List Nat
 |_,_,_,[]=>[]
 |last,most,k,l :: t=>if l=most∧(last.elim true (fun i=>P i k))=true then k :: greedy P (some k) (most-1) (k+1) t else greedy P last most (k+1) t
def follow (P:Nat→Nat→Bool):Nat→Nat→List Nat→List Nat
 |0,_,_=>[]
 |f+1,i,s=>i :: (match (scanD P i (i+1) s).2 with
  |none=>[]
  |some k=>follow P f k (s.drop (k-i)))
def chainP (P:Nat→Nat→Bool) (n:Nat):List Nat:=match firstAt (fun _=>true) (mostOf (lensT P 0 n)) 0 (lensT P 0 n) with
 |none=>[]
 |some i=>follow P (n+1) i ((lensT P 0 n).drop (i+1))
def chainR (P:Nat→Nat→Bool) (n:Nat):List Nat:=greedy P none (mostOf (lensT P 0 n)) 0 (lensT P 0 n)
end Go.Chain
namespace Go.Chain
def lf (P:Nat→Nat→Bool) (n i:Nat):Nat:=1+bestOf P i (i+1) (lensT P (i+1) (n-i-1))
def Valid (P:Nat→Nat→Bool) (n:Nat):List Nat→Prop
 |[]=>True
 |i :: s=>i < n∧(match s with|[]=>True|k :: _=>i < k∧P i k=true)∧Valid P n s
def lexLe:List Nat→List Nat→Prop
 |[],_=>True
 |_ :: _,[]=>False
 |a :: s,b :: t=>a < b∨(a=b∧lexLe s t)
theorem Valid.mono {P Q:Nat→Nat→Bool} (h:∀ i k,P i k=true→Q i k=true) {n:Nat}:∀ s,Valid P n s→Valid Q n s
 |[],_=>trivial
 |[i],hs=>⟨hs.1,trivial,trivial⟩
 |i :: k :: s,hs=>⟨hs.1,⟨hs.2.1.1,h _ _ hs.2.1.2⟩,Valid.mono h (k :: s) hs.2.2⟩
end Go.Chain
namespace Go.Chain
def scanL (P:Nat→Nat→Bool) (L i k:Nat):Nat × Option Nat:=scanD P i k (lensT P k (L-k))
def nx (P:Nat→Nat→Bool) (L i:Nat):Option Nat:=(scanL P L i (i+1)).2
def fst (P:Nat→Nat→Bool) (L i:Nat):Option Nat:=firstAt (fun _=>true) (mostOf (lensT P i (L-i))) i (lensT P i (L-i))
def fol (P:Nat→Nat→Bool) (L:Nat):Nat→Option Nat→List Nat
 |0,_=>[]
 |_+1,none=>[]
 |f+1,some i=>i :: fol P L f (nx P L i)
def optI:Option Nat→Int
 |none=>-1
 |some k=>(k:Int)
end Go.Chain
namespace Go.Chain
section
variable {α:Type} [DecidableEq α]
structure Rs (α:Type) where
 n:Nat
 mv:Nat→Bool
 nm:Nat→α
 tm:Nat→Int
def Rs.grp (R:Rs α) (s:α):List Nat:=(List.range R.n).filter (fun i=>R.mv i && decide (R.nm i=s))
structure Rs.IsG (R:Rs α) (s:α) (T:List Nat):Prop where
 perm:T.Perm (R.grp s)
 asc:T.Pairwise (fun i k=>R.tm i≤R.tm k)
def Rs.gs (R:Rs α) (s:α):List Nat:=(R.grp s).mergeSort (fun i k=>decide (R.tm i≤R.tm k))
def Rs.Dup (R:Rs α):Prop:=∃ i k,k < i∧i < R.n∧R.mv i=true∧R.mv k=true∧R.nm i=R.nm k∧R.tm i=R.tm k
theorem Rs.mem_grp {R:Rs α} {s:α} {i:Nat}:i∈R.grp s↔i < R.n∧R.mv i=true∧R.nm i=s:=by
 unfold Rs.grp
 rw[List.mem_filter,List.mem_range,Bool.and_eq_true,decide_eq_true_eq]
theorem Rs.grp_nodup (R:Rs α) (s:α):(R.grp s).Nodup:=List.Nodup.sublist List.filter_sublist List.nodup_range
theorem Rs.grp_len (R:Rs α) (s:α):(R.grp s).length≤R.n:=by
 have:=List.length_filter_le (fun i=>R.mv i && decide (R.nm i=s)) (List.range R.n)
 rw[List.length_range] at this
 exact this
theorem Rs.gs_is (R:Rs α) (s:α):R.IsG s (R.gs s):=by
 refine⟨List.mergeSort_perm _ _,?_⟩
 have:=List.pairwise_mergeSort (le:=fun i k:Nat=>decide (R.tm i≤R.tm k)) (fun a b c h1 h2=>by simp at *;omega) (fun a b=>by simp;omega) (R.grp s)
 exact this.imp (fun h=>by simpa using h)
theorem Rs.IsG.mem {R:Rs α} {s:α} {T:List Nat} (h:R.IsG s T) {i:Nat}:i∈T↔i < R.n∧R.mv i=true∧R.nm i=s:=h.perm.mem_iff.trans Rs.mem_grp
theorem Rs.IsG.nodup {R:Rs α} {s:α} {T:List Nat} (h:R.IsG s T):T.Nodup:=h.perm.nodup_iff.2 (R.grp_nodup s)
theorem Rs.IsG.len {R:Rs α} {s:α} {T:List Nat} (h:R.IsG s T):T.length≤R.n:=by
 rw[h.perm.length_eq];exact R.grp_len s
theorem Rs.IsG.strict {R:Rs α} {s:α} {T:List Nat} (h:R.IsG s T) (hd:¬ R.Dup):T.Pairwise (fun i k=>R.tm i < R.tm k):=by
 have h1:=h.asc.and h.nodup
 refine List.Pairwise.imp_of_mem ?_ h1
 rintro a b ha hb ⟨h2,h3⟩
 obtain⟨a1,a2,a3⟩:=h.mem.1 ha
 obtain⟨b1,b2,b3⟩:=h.mem.1 hb
 by_cases e:R.tm a=R.tm b
 ·exfalso
  rcases Nat.lt_or_gt_of_ne h3 with h4|h4
  ·exact hd ⟨b,a,h4,b1,b2,a2,b3.trans a3.symm,e.symm⟩
  ·exact hd ⟨a,b,h4,a1,a2,b2,a3.trans b3.symm,e⟩
 ·omega
theorem Rs.IsG.unique {R:Rs α} {s:α} {T:List Nat} (h:R.IsG s T) (hd:¬ R.Dup):T=R.gs s:=by
 have h2:=(R.gs_is s)
 have s1:=h.strict hd
 have s2:=h2.strict hd
 have hp:T.Perm (R.gs s):=h.perm.trans h2.perm.symm
 exact hp.eq_of_pairwise (fun a b ha hb h1 h2=>by omega) s1 s2
def badL (P:Nat→Nat→Bool) (T:List Nat):List Nat:=((List.range T.length).filter (fun j=>!(chainP (fun a b=>P (T.getD a 0) (T.getD b 0)) T.length).contains j)).map (fun j=>T.getD j 0)
def Rs.susp (R:Rs α) (P:Nat→Nat→Bool):List Nat:=(List.range R.n).filter (fun i=>R.mv i && (badL P (R.gs (R.nm i))).contains i)
end
end Go.Chain
