import Derived.Test.YtbomggfklfbnkaaGreatDoorKChain
import Derived.Test.YtbomggfklfbnkaaGreatDoorKTrkN
import Derived.Test.YtbomggfklfbnkaaGreatDoorTrkR
set_option maxRecDepth 100000
set_option maxHeartbeats 8000000
set_option linter.unusedSimpArgs false
set_option linter.unusedVariables false
namespace Go.Chain
def setOf (b k:Nat):List Nat:=(List.range k).filter (fun i=>b.testBit i)
theorem setOf_yes {b k:Nat} (h:b.testBit k=true):setOf b (k+1)=setOf b k ++ [k]:=by
 unfold setOf;rw[List.range_succ,List.filter_append];simp[h]
theorem setOf_no {b k:Nat} (h:b.testBit k=false):setOf b (k+1)=setOf b k:=by
 unfold setOf;rw[List.range_succ,List.filter_append];simp[h]
theorem setOf_len (b k:Nat):(setOf b k).length≤k:=by
 have:=List.length_filter_le (fun i=>b.testBit i) (List.range k)
 rw[List.length_range] at this
 exact this
theorem setOf_lt {b k i:Nat} (h:i∈setOf b k):i < k:=by
 unfold setOf at h
 rw[List.mem_filter,List.mem_range] at h
 exact h.1
theorem setOf_asc (b k:Nat):(setOf b k).Pairwise (· < ·):=List.Pairwise.sublist List.filter_sublist List.pairwise_lt_range
def okB (P:Nat→Nat→Bool):List Nat→Bool
 |[]=>true
 |[_]=>true
 |i :: j :: s=>P i j && okB P (j :: s)
theorem okB_snoc (P:Nat→Nat→Bool) (i:Nat):∀ (s:List Nat) (h:0 < s.length),okB P (s ++ [i])=(okB P s && P (s[s.length-1]) i)
 |[a],_=>by simp[okB]
 |a :: b :: s,_=>by
  have ih:=okB_snoc P i (b :: s) (by simp)
  show (P a b && okB P ((b :: s) ++ [i]))=((P a b && okB P (b :: s)) && _)
  rw[ih,Bool.and_assoc]
  congr 2
theorem valid_of {P:Nat→Nat→Bool} {n:Nat}:∀ s,okB P s=true→s.Pairwise (· < ·)→(∀ i∈s,i < n)→Valid P n s
 |[],_,_,_=>trivial
 |[a],_,_,h=>⟨h a (by simp),trivial,trivial⟩
 |a :: b :: s,h1,h2,h3=>by
  have h4:P a b=true∧okB P (b :: s)=true:=by
   have:(P a b && okB P (b :: s))=true:=h1
   rwa[Bool.and_eq_true] at this
  rw[List.pairwise_cons] at h2
  exact⟨h3 a (by simp),⟨h2.1 b (by simp),h4.1⟩,valid_of (b :: s) h4.2 h2.2 (fun i hi=>h3 i (by simp at hi ⊢;right;exact hi))⟩
theorem ok_of {P:Nat→Nat→Bool} {n:Nat}:∀ s,Valid P n s→okB P s=true∧s.Pairwise (· < ·)
 |[],_=>⟨rfl,List.Pairwise.nil⟩
 |[a],_=>⟨rfl,by simp⟩
 |a :: b :: s,h=>by
  obtain⟨_,⟨h2,h3⟩,h4⟩:=h
  obtain⟨i1,i2⟩:=ok_of (b :: s) h4
  refine⟨?_,?_⟩
  ·show (P a b && okB P (b :: s))=true
   rw[h3,i1];rfl
  ·rw[List.pairwise_cons]
   refine⟨fun x hx=>?_,i2⟩
   rcases List.mem_cons.1 hx with rfl|hx
   ·exact h2
   ·have:=(List.pairwise_cons.1 i2).1 x hx
    omega
theorem bits_of (f:Nat→Bool):∀ M,∃ b,b < 2 ^ M∧∀ i,i < M→b.testBit i=f i
 |0=>⟨0,by simp,fun i h=>by omega⟩
 |M+1=>by
  obtain⟨b,h1,h2⟩:=bits_of f M
  cases hf:f M
  ·refine⟨b,by rw[Nat.pow_succ];omega,fun i hi=>?_⟩
   by_cases e:i=M
   ·subst e;rw[hf];exact Nat.testBit_lt_two_pow h1
   ·exact h2 i (by omega)
  ·refine⟨2 ^ M+b,by rw[Nat.pow_succ];omega,fun i hi=>?_⟩
   by_cases e:i=M
   ·subst e
    rw[hf,Nat.testBit_two_pow_add_eq,Nat.testBit_lt_two_pow h1];rfl
   ·rw[Nat.testBit_two_pow_add_gt (by omega)]
    exact h2 i (by omega)
theorem set_of {M:Nat} {c:List Nat} (h1:c.Pairwise (· < ·)) (h2:∀ i∈c,i < M):∃ b,b < 2 ^ M∧setOf b M=c:=by
 obtain⟨b,hb,hf⟩:=bits_of (fun i=>decide (i∈c)) M
 refine⟨b,hb,?_⟩
 have hm:∀ i,i∈setOf b M↔i∈c:=fun i=>by
  unfold setOf
  rw[List.mem_filter,List.mem_range]
  constructor
  ·rintro⟨h3,h4⟩
   rw[hf i h3] at h4
   simpa using h4
  ·intro h
   exact⟨h2 i h,by rw[hf i (h2 i h)];simpa using h⟩
 have hp:(setOf b M).Perm c:=(List.perm_ext_iff_of_nodup ((setOf_asc b M).imp (fun h=>by omega)) (h1.imp (fun h=>by omega))).2 hm
 exact hp.eq_of_pairwise (fun a b ha hb h1 h2=>by omega) (setOf_asc b M) h1
theorem set_zero (M:Nat):setOf 0 M=[]:=by
 unfold setOf
 rw[List.filter_eq_nil_iff]
 intro i _
 simp
def FoundAt (P:Nat→Nat→Bool) (M:Nat) (c:List Nat) (bits:Nat):Prop:=(M=0∧c=[])∨∃ b,1≤b∧b < bits∧okB P (setOf b M)=true∧setOf b M=c
noncomputable instance (P:Nat→Nat→Bool) (M:Nat) (c:List Nat) (bits:Nat):Decidable (FoundAt P M c bits):=Classical.propDecidable _
noncomputable def foundB (P:Nat→Nat→Bool) (M:Nat) (c:List Nat) (bits:Nat):Bool:=decide (FoundAt P M c bits)
theorem found_iff {P:Nat→Nat→Bool} {M:Nat} {c:List Nat} {bits:Nat}:foundB P M c bits=true↔FoundAt P M c bits:=by unfold foundB;exact decide_eq_true_iff
theorem found_one (P:Nat→Nat→Bool) (M:Nat) (c:List Nat):foundB P M c 1=decide (M=0∧c=[]):=by
 rw[Bool.eq_iff_iff,found_iff,decide_eq_true_eq]
 unfold FoundAt
 constructor
 ·rintro (h|⟨b,h1,h2,_⟩)
  ·exact h
  ·omega
 ·exact fun h=>.inl h
theorem found_no {P:Nat→Nat→Bool} {M:Nat} {c:List Nat} {bits:Nat} (h:okB P (setOf bits M)=false):foundB P M c (bits+1)=foundB P M c bits:=by
 rw[Bool.eq_iff_iff,found_iff,found_iff]
 unfold FoundAt
 constructor
 ·rintro (h1|⟨b,h1,h2,h3,h4⟩)
  ·exact .inl h1
  ·by_cases e:b=bits
   ·subst e;rw[h] at h3;cases h3
   ·exact .inr ⟨b,h1,by omega,h3,h4⟩
 ·rintro (h1|⟨b,h1,h2,h3,h4⟩)
  ·exact .inl h1
  ·exact .inr ⟨b,h1,by omega,h3,h4⟩
theorem found_yes {P:Nat→Nat→Bool} {M:Nat} {c:List Nat} {bits:Nat} (h1:1≤bits) (h:okB P (setOf bits M)=true):foundB P M c (bits+1)=(foundB P M c bits || decide (setOf bits M=c)):=by
 rw[Bool.eq_iff_iff,Bool.or_eq_true,found_iff,found_iff,decide_eq_true_eq]
 unfold FoundAt
 constructor
 ·rintro (h2|⟨b,h2,h3,h4,h5⟩)
  ·exact .inl (.inl h2)
  ·by_cases e:b=bits
   ·subst e;exact .inr h5
   ·exact .inl (.inr ⟨b,h2,by omega,h4,h5⟩)
 ·rintro ((h2|⟨b,h2,h3,h4,h5⟩)|h2)
  ·exact .inl h2
  ·exact .inr ⟨b,h2,by omega,h4,h5⟩
  ·exact .inr ⟨bits,h1,by omega,h,h2⟩
theorem found_all (P:Nat→Nat→Bool) (M:Nat) {bits:Nat} (hb:2 ^ M≤bits):foundB P M (chainP P M) bits=true:=by
 rw[found_iff]
 by_cases h0:M=0
 ·subst h0;exact .inl ⟨rfl,rfl⟩
 ·obtain⟨h1,h2,_⟩:=chain_facts P M
  obtain⟨k1,k2⟩:=ok_of _ h1
  obtain⟨b,hb1,hb2⟩:=set_of k2 (chain_lt P M)
  have h3:=h2 [0] ⟨by omega,trivial,trivial⟩
  have h4:b≠0:=by
   rintro rfl
   rw[set_zero] at hb2
   rw[←hb2] at h3
   simp at h3
  exact .inr ⟨b,by omega,by omega,by rw[hb2];exact k1,hb2⟩
theorem lex_at:∀ (i:Nat) (c s:List Nat) (hc:i < c.length) (hs:i < s.length),lexLe c s→(∀ j (h:j < i),c[j]=s[j])→c[i]≤s[i]
 |i,[],s,hc,_,_,_=>absurd hc (by simp)
 |i,a :: c,[],_,hs,_,_=>absurd hs (by simp)
 |0,a :: c,b :: s,_,_,h,_=>by
  rcases h with h|⟨h,_⟩
  ·show a≤b;omega
  ·show a≤b;omega
 |i+1,a :: c,b :: s,hc,hs,h,he=>by
  have e:a=b:=he 0 (by omega)
  rcases h with h|⟨_,h⟩
  ·omega
  ·exact lex_at i c s (by simpa using hc) (by simpa using hs) h (fun j hj=>he (j+1) (by omega))
theorem set_long {P:Nat→Nat→Bool} {M b:Nat} (h:okB P (setOf b M)=true):(setOf b M).length≤(chainP P M).length∧((setOf b M).length=(chainP P M).length→lexLe (chainP P M) (setOf b M)):=by
 have hv:Valid P M (setOf b M):=valid_of _ h (setOf_asc b M) (fun i hi=>setOf_lt hi)
 obtain⟨_,h2,h3⟩:=chain_facts P M
 exact⟨h2 _ hv,h3 _ hv⟩
end Go.Chain
namespace Go.Proofs.YtbomggfklfbnkaaGreatDoor
open Go.RowKit Go.Grid Go.Maps Go.Sort Go.Shelf Go.Chain
def matC (NB M:Nat) (R:Nat→Nat) (k:Nat):Nat→Value:=fun i=>if i < k then .slice (some ⟨R i,0,none⟩) M M else .slice none 0 0
def MatAt (w:World) (NB M:Nat) (Q:Nat→Nat→Bool) (k:Nat):Prop:=∃ R:Nat→Nat,w.rowIs NB 44 M (matC NB M R k)∧∀ i,i < k→w.rowIs (R i) 4 M (fun j=>.bool (decide (i < j) && Q i j))
theorem MatAt.made (w:World) (M:Nat) (Q:Nat→Nat→Bool):MatAt (w.alloc (.cells (madeCells #[.slice none 0 0] M) 44)) w.heap.size M Q 0:=
 ⟨fun _=>0,(World.rowIs_made w _ M _).congr (fun i _=>by unfold matC;rw[if_neg (by omega)]),fun i hi=>by omega⟩
theorem MatAt.below {w w':World} {NB M k:Nat} {Q:Nat→Nat→Bool} (h:MatAt w NB M Q k) (hb:Below w.heap.size w w'):MatAt w' NB M Q k:=by
 obtain⟨R,h1,h2⟩:=h
 exact⟨R,h1.of_block (hb.block _ h1.lt),fun i hi=>(h2 i hi).of_block (hb.block _ (h2 i hi).lt)⟩
theorem MatAt.lt {w:World} {NB M k:Nat} {Q:Nat→Nat→Bool} (h:MatAt w NB M Q k):NB < w.heap.size:=by
 obtain⟨R,h1,_⟩:=h
 exact h1.lt
theorem MatAt.row {w:World} {NB M k:Nat} {Q:Nat→Nat→Bool} (h:MatAt w NB M Q k) {i:Nat} (hi:i < k) (hk:k≤M):∃ R,w.cell? ⟨NB,i,none⟩=some (.slice (some ⟨R,0,none⟩) M M)∧∀ j,j < M→w.cell? ⟨R,j,none⟩=some (.bool (decide (i < j) && Q i j)):=by
 obtain⟨R,h1,h2⟩:=h
 refine⟨R i,?_,fun j hj=>(h2 i hi).cell hj⟩
 have:=h1.cell (i:=i) (by omega)
 rw[this]
 unfold matC
 rw[if_pos hi]
theorem MatAt.soft {w:World} {NB M k:Nat} {Q:Nat→Nat→Bool} (h:MatAt w NB M Q k) (i:Nat):w.frozen? ⟨NB,i,none⟩=false:=by
 obtain⟨R,h1,_⟩:=h
 exact h1.frozen i
theorem MatAt.cell {w:World} {NB M k:Nat} {Q:Nat→Nat→Bool} (h:MatAt w NB M Q k) {i:Nat} (hi:i < M):∃ v,w.cell? ⟨NB,i,none⟩=some v:=by
 obtain⟨R,h1,_⟩:=h
 exact⟨_,h1.cell hi⟩
theorem MatAt.next {w w':World} {NB M k R:Nat} {Q:Nat→Nat→Bool} (h:MatAt w NB M Q k) (h1:w'.heap[NB]?=(w.setCell ⟨NB,k,none⟩ (.slice (some ⟨R,0,none⟩) M M)).heap[NB]?) (h2:∀ b,b < w.heap.size→b≠NB→w'.heap[b]?=w.heap[b]?)
  (h3:w'.rowIs R 4 M (fun j=>.bool (decide (k < j) && Q k j))) (h4:∀ j i,j < w.heap.size→w.frozen? ⟨j,i,none⟩=w.frozen? ⟨j,i,none⟩) (hne:∀ (R0:Nat→Nat) i,i < k→w.rowIs (R0 i) 4 M (fun j=>.bool (decide (i < j) && Q i j))→w.rowIs NB 44 M (matC NB M R0 k)→R0 i≠NB):MatAt w' NB M Q (k+1):=by
 obtain⟨R0,g1,g2⟩:=h
 refine⟨fun i=>if i=k then R else R0 i,((g1.set k (.slice (some ⟨R,0,none⟩) M M)).of_block h1).congr (fun i hi=>?_),fun i hi=>?_⟩
 ·unfold matC
  by_cases e:i=k
  ·subst e
   rw[if_pos rfl,if_pos (Nat.lt_succ_self _)];dsimp only;rw[if_pos rfl]
  ·rw[if_neg e]
   by_cases e2:i < k
   ·rw[if_pos e2,if_pos (by omega)];dsimp only;rw[if_neg e]
   ·rw[if_neg e2,if_neg (by omega)]
 ·by_cases e:i=k
  ·subst e
   dsimp only
   rw[if_pos rfl]
   exact h3
  ·dsimp only
   rw[if_neg e]
   exact (g2 i (by omega)).of_block (h2 _ (g2 i (by omega)).lt (hne R0 i (by omega) (g2 i (by omega)) g1))
theorem brow_ne {w:World} {NB M:Nat} {f g:Nat→Value} {R:Nat} (h:w.rowIs R 4 M f) (h2:w.rowIs NB 44 M g):R≠NB:=by
 rintro rfl
 obtain⟨c,h1,_⟩:=h
 obtain⟨d,h3,_⟩:=h2
 rw[h1] at h3
 have e:=Option.some.inj h3
 injection e with _ e
 exact absurd e (by decide)
theorem MatAt.step {w w':World} {NB M k R:Nat} {Q:Nat→Nat→Bool} (h:MatAt w NB M Q k) (h1:w'.heap[NB]?=(w.setCell ⟨NB,k,none⟩ (.slice (some ⟨R,0,none⟩) M M)).heap[NB]?) (h2:∀ b,b < w.heap.size→b≠NB→w'.heap[b]?=w.heap[b]?)
  (h3:w'.rowIs R 4 M (fun j=>.bool (decide (k < j) && Q k j))):MatAt w' NB M Q (k+1):=
 h.next h1 h2 h3 (fun _ _ _=>rfl) (fun _ _ _ g1 g2=>brow_ne g1 g2)
theorem and1L (n:Int):bits .and .i64 n 1=n % 2:=by
 have h1:(BitVec.ofInt 64 1).toNat=2 ^ 1-1:=by decide
 have key:(BitVec.ofInt 64 n &&& BitVec.ofInt 64 1).toNat=(n % ((2 ^ 64:Nat):Int)).toNat % 2 ^ 1:=by
  rw[BitVec.toNat_and,BitVec.toNat_ofInt,h1,Nat.and_two_pow_sub_one_eq_mod]
 show IntKind.i64.wrap ((BitVec.ofInt 64 n &&& BitVec.ofInt 64 1).toNat:Nat)=n % 2
 rw[key,IntKind.wrap_i64]
 omega
theorem bit_zero (x k:Nat):(bits .and .i64 ((x:Int) / 2 ^ k) 1 == 0)=!(x.testBit k):=by
 rw[and1L,Nat.testBit_eq_decide_div_mod_eq]
 have e:((x:Int) / 2 ^ k) % 2=((x / 2 ^ k % 2:Nat):Int):=by simp
 rw[e]
 rcases Nat.mod_two_eq_zero_or_one (x / 2 ^ k) with h|h<;>rw[h]<;>rfl
theorem natI_inj {a b:List Nat} (h:natI a=natI b):a=b:=by
 unfold natI at h
 exact List.map_inj_right (fun x y e=>by omega) |>.1 h
theorem decide_natI (a b:List Nat):decide (natI a=natI b)=decide (a=b):=by
 by_cases h:a=b
 ·rw[h,zDt rfl,zDt rfl]
 ·rw[zDf h,zDf (fun e=>h (natI_inj e))]
theorem kints_gen (p q:Option Addr) (zs ys:List Int) (cz cy n m:Nat) (w:World) (h1:zs.length=n) (h2:ys.length=m) (hV:VecAt w p zs) (hU:VecAt w q ys) (hl:n≤1000) :
  Calls Tryz.prog 18 #[.slice p n cz,.slice q m cy] w fun e w'=>e=.returned (.bool (decide (zs=ys)))∧Below w.heap.size w w':=by
 by_cases h:n=m
 ·subst h
  exact kints12 p q zs ys cz cy n w h1 h2 hV hU hl
 ·have hd:decide (zs=ys)=false:=zDf (fun e=>h (by rw[←h1,←h2,e]))
  rw[hd]
  have hb:((n:Int) != (m:Int))=true:=by simp;omega
  clear hd h1 h2 hV hU hl
  go_enter Tryz.func18,Tryz.ntmps18
  go_wp2
  go_ret
  exact⟨rfl,zBr _ _⟩
end Go.Proofs.YtbomggfklfbnkaaGreatDoor
