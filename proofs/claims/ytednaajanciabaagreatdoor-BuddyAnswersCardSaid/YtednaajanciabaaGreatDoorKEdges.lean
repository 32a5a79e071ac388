import Derived.Test.YtednaajanciabaaGreatDoorKSort
import Derived.Deep.OwnRows
set_option maxRecDepth 100000
set_option maxHeartbeats 8000000
set_option linter.unusedSimpArgs false
set_option linter.unusedVariables false
namespace Go.Proofs.YtednaajanciabaaGreatDoor
open Go.RowKit Go.Grid Go.Maps Go.Sort Go.Shelf
def cpos (n f a b:Nat):Pl:=⟨f,a*hh n,b*hh n,(n-1-a-b)*hh n⟩
def cB (n f a k:Nat):List (List Int):=(List.range k).flatMap (fun b=>cellsAt (nodesL n) (hh n) (cpos n f a b))
def cA (n f k:Nat):List (List Int):=(List.range k).flatMap (fun a=>cB n f a (n-a))
def cF (n k:Nat):List (List Int):=(List.range k).flatMap (fun f=>cA n f n)
def cellsRaw (n:Nat):List (List Int):=cF n 20
def csofar (n f a b:Nat):List (List Int):=cF n f ++ (cA n f a ++ cB n f a b)
theorem csofar_succ (n f a b:Nat):csofar n f a (b+1)=csofar n f a b ++ cellsAt (nodesL n) (hh n) (cpos n f a b):=by
 simp[csofar,cB,List.range_succ,List.flatMap_append]
theorem csofar_row (n f a:Nat):csofar n f a (n-a)=csofar n f (a+1) 0:=by
 simp[csofar,cA,cB,List.range_succ,List.flatMap_append]
theorem csofar_face (n f:Nat):csofar n f n 0=csofar n (f+1) 0 0:=by
 simp[csofar,cF,cA,cB,List.range_succ,List.flatMap_append]
theorem csofar_start (n:Nat):csofar n 0 0 0=[]:=by simp[csofar,cF,cA,cB]
theorem csofar_end (n:Nat):csofar n 20 0 0=cellsRaw n:=by simp[csofar,cellsRaw,cA,cB]
theorem len_cellsAt (L:List Pl) (h:Nat) (p:Pl):(cellsAt L h p).length≤2:=by
 unfold cellsAt;split<;>simp
theorem len_cB (n f a:Nat):∀ k,(cB n f a k).length≤2*k
 |0=>by simp[cB]
 |k+1=>by
  have:=len_cB n f a k
  have:=len_cellsAt (nodesL n) (hh n) (cpos n f a k)
  have e:cB n f a (k+1)=cB n f a k ++ cellsAt (nodesL n) (hh n) (cpos n f a k):=by simp[cB,List.range_succ,List.flatMap_append]
  rw[e,List.length_append];omega
theorem len_cA (n f:Nat):∀ k,(cA n f k).length≤k*(2*n)
 |0=>by simp[cA]
 |k+1=>by
  have:=len_cA n f k
  have:=len_cB n f k (n-k)
  have e:cA n f (k+1)=cA n f k ++ cB n f k (n-k):=by simp[cA,List.range_succ,List.flatMap_append]
  rw[e,List.length_append,Nat.succ_mul];omega
theorem len_cF (n:Nat):∀ k,(cF n k).length≤k*(n*(2*n))
 |0=>by simp[cF]
 |k+1=>by
  have:=len_cF n k
  have:=len_cA n k n
  have e:cF n (k+1)=cF n k ++ cA n k n:=by simp[cF,List.range_succ,List.flatMap_append]
  rw[e,List.length_append,Nat.succ_mul];omega
theorem len_csofar {n f a b:Nat} (hn:n≤8) (hf:f≤20) (ha:a≤n) (hb:b≤n):(csofar n f a b).length≤5000:=by
 have h1:=len_cF n f
 have h2:=len_cA n f a
 have h3:=len_cB n f a b
 have h4:f*(n*(2*n))≤20*(8*16):=Nat.mul_le_mul hf (Nat.mul_le_mul hn (by omega))
 have h5:a*(2*n)≤8*16:=Nat.mul_le_mul (by omega) (by omega)
 simp only[csofar,List.length_append]
 omega
theorem cells_three (n:Nat):∀ c∈cellsRaw n,c.length=3:=by
 intro c hc
 simp only[cellsRaw,cF,cA,cB,List.mem_flatMap,List.mem_range] at hc
 obtain⟨f,_,a,_,b,_,hc⟩:=hc
 unfold cellsAt at hc
 rcases List.mem_cons.1 hc with rfl|hc
 ·exact tri_len _ _ _ _
 ·split at hc
  ·rw[List.mem_singleton] at hc;subst hc;exact tri_len _ _ _ _
  ·cases hc
def to3 (c:List Int):I3:=(c.getD 0 0,c.getD 1 0,c.getD 2 0)
theorem enc3_to3 {c:List Int} (h:c.length=3):enc3 (to3 c)=ceCells c:=by
 match c,h with
 |[x,y,z],_=>rfl
def cells3 (n:Nat):List I3:=(cellsRaw n).map to3
theorem ceVals_eq {C:List (List Int)} (h:∀ c∈C,c.length=3):ceVals C=(C.map to3).flatMap enc3:=by
 unfold ceVals
 rw[List.flatMap_map]
 induction C with
 |nil=>rfl
 |cons c C ih=>
  rw[List.flatMap_cons,List.flatMap_cons,enc3_to3 (h c (by simp)),ih (fun c hc=>h c (by simp[hc]))]
theorem flat_get {α:Type} [Inhabited α] (enc:α→List Value) (k:Nat) (hk:0 < k) (hl:∀ x,(enc x).length=k):∀ (d:List α) (j:Nat) (hj:j < d.length*k),(d.flatMap enc)[j]?=(enc (d.getD (j / k) default))[j % k]?
 |[],j,hj=>by simp at hj
 |x :: d,j,hj=>by
  rw[List.flatMap_cons]
  by_cases h:j < k
  ·rw[List.getElem?_append_left (by rw[hl];exact h),Nat.div_eq_of_lt h,Nat.mod_eq_of_lt h];rfl
  ·have hj2:j-k < d.length*k:=by rw[List.length_cons,Nat.succ_mul] at hj;omega
   rw[List.getElem?_append_right (by rw[hl];omega),hl,flat_get enc k hk hl d (j-k) hj2]
   have e1:j / k=(j-k) / k+1:=by
    rw[←Nat.add_div_right _ hk];congr 1;omega
   have e2:j % k=(j-k) % k:=by
    rw[←Nat.add_mod_right (j-k) k];congr 1;omega
   rw[e1,e2];rfl
theorem own_holds {α:Type} [Inhabited α] {enc:α→List Value} {k:Nat} (hk:0 < k) (hl:∀ x,(enc x).length=k) {w:World} {base g cap n:Nat} {e:TypeId} {d:List α} (hown:w.ownsRow base e k (.slice (some ⟨g,0,none⟩) n cap) n (d.flatMap enc)) (hn:d.length=n):HoldsK enc k w g 0 d.toArray:=by
 intro j hj
 have hj':j < d.length*k:=by rw[size_flatK] at hj;simpa using hj
 have hjn:j < n*k:=by rw[←hn];exact hj'
 have h1:=hown.cellAt j hjn
 have h2:=hown.frozenAt j
 rw[Nat.zero_add]
 refine⟨?_,h2⟩
 rw[h1,get_flatK _ _ _ _ (by simpa using hj'),flat_get enc k hk hl d j hj']
 have hd:j / k < d.length:=Nat.div_lt_of_lt_mul (by rw[Nat.mul_comm];exact hj')
 have e1:d.toArray[j / k]! = d.getD (j / k) default:=by
  rw[getElem!_pos d.toArray (j / k) (by simpa using hd)]
  simp[List.getD,List.getElem?_eq_getElem hd]
 rw[e1]
 have hm:j % k < (enc (d.getD (j / k) default)).length:=by rw[hl];exact Nat.mod_lt _ hk
 rw[List.getElem?_eq_getElem hm]
 exact congrArg some (getElem!_pos (enc (d.getD (j / k) default)) (j % k) hm).symm
structure Fld (W w:World) (g c:Nat):Prop where
 grown:W.grownBy w (some g)
 cells:∀ j,j≠c→w.cell? ⟨g,j,none⟩=W.cell? ⟨g,j,none⟩
 frz:∀ j,w.frozen? ⟨g,j,none⟩=W.frozen? ⟨g,j,none⟩
 lt:g < W.heap.size
theorem Fld.refl {W:World} {g c:Nat} (h:g < W.heap.size):Fld W W g c:=⟨World.grownBy.refl _ _,fun _ _=>rfl,fun _=>rfl,h⟩
theorem Fld.step {W w w':World} {g c:Nat} {row:Option Nat} (h:Fld W w g c) (hg:w.grownBy w' row) (hr:∀ k,row=some k→W.heap.size≤k):Fld W w' g c:=by
 have hlt:=h.lt
 have hsz:=h.grown.size
 have hb:w'.heap[g]?=w.heap[g]?:=hg.block g (by omega) (fun e=>by have:=hr g e.symm;omega)
 refine⟨⟨hg.os.trans h.grown.os,hg.tape.trans h.grown.tape,hg.output.trans h.grown.output,Nat.le_trans hsz hg.size,fun k hk hne=>?_⟩,fun j hj=>(World.cell?_of_block hb).trans (h.cells j hj),fun j=>(zFb hb).trans (h.frz j),hlt⟩
 exact (hg.block k (by omega) (fun e=>by have:=hr k e.symm;omega)).trans (h.grown.block k hk hne)
theorem Fld.below {W w w':World} {g c:Nat} (h:Fld W w g c) (hb:Below w.heap.size w w'):Fld W w' g c:=
 h.step (row:=none) ⟨hb.os,hb.tape,hb.output,hb.size,fun k hk _=>hb.block k hk⟩ (fun k e=>by cases e)
theorem Fld.alloc {W w:World} {g c:Nat} (h:Fld W w g c) (o:Obj):Fld W (w.alloc o) g c:=h.step (World.grownBy_alloc w o none) (fun k e=>by cases e)
theorem Fld.drew {W w:World} {g c:Nat} (h:Fld W w g c):Fld W w.drew g c:=⟨⟨h.grown.os,h.grown.tape,h.grown.output,h.grown.size,h.grown.block⟩,h.cells,h.frz,h.lt⟩
theorem Fld.set {W w:World} {g c:Nat} (h:Fld W w g c) (v:Value):Fld W (w.setCell ⟨g,c,none⟩ v) g c:=
 ⟨h.grown.trans (grownBy_setCell _ _ _ _),fun j hj=>(zK _ _ _ _ (by first|(simp;done)|(simp;omega)|omega)).trans (h.cells j hj),fun j=>(World.frozen?_setCell _ _ _ _).trans (h.frz j),h.lt⟩
theorem Fld.size {W w:World} {g c:Nat} (h:Fld W w g c):W.heap.size≤w.heap.size:=h.grown.size
theorem Fld.block {W w:World} {g c:Nat} (h:Fld W w g c) {k:Nat} (hk:k < W.heap.size) (hne:k≠g):w.heap[k]?=W.heap[k]?:=h.grown.block k hk (by simp;exact hne)
theorem Fld.bel {W w:World} {g c B:Nat} (h:Fld W w g c) (hB:B≤g):Below B W w:=
 ⟨h.grown.os,h.grown.tape,h.grown.output,h.grown.size,fun k hk=>h.block (by have:=h.lt;omega) (by omega)⟩
theorem Fld.net {W w:World} {g c n base:Nat} {L:List Pl} (h:Fld W w g c) (hc:4≤c) (hN:NetAt W g n base L):NetAt w g n base L:=by
 obtain⟨v,B,h1,h2,h3,h4,h5⟩:=hN.nd
 have hb:=hN.hb
 refine⟨(h.cells 0 (by omega)).trans hN.cn,(h.cells 1 (by omega)).trans hN.ch,fun j=>(h.frz j).trans (hN.fr j),⟨hN.hb.1,Nat.le_trans hN.hb.2 h.size⟩,v,B,(h.cells 2 (by omega)).trans h1,(h.cells 3 (by omega)).trans h2,h3.kept h.grown ?_,h4.kept h.grown (by simp;omega),h5⟩
 cases ho:v.ownBlock with
 |none=>exact .inl rfl
 |some k=>have:=(h3.lt k ho).1;exact .inr (by simp;omega)
theorem row_ne {w:World} {base s n b:Nat} {e e':TypeId} {v:Value} {xs:List Value} {cur:Array Value} {fr:Nat × Nat} (h:w.ownsRow base e s v n xs) (hb:w.heap[b]?=some (.cells cur e' fr)) (hne:e≠e'):v.ownBlock≠some b:=by
 rcases h.2 with ⟨rfl,_⟩|⟨g,c,cur1,rfl,_,hg,_⟩
 ·simp[Value.ownBlock]
 ·intro e
  simp[Value.ownBlock] at e
  subst e
  rw[hg] at hb
  simp at hb
  exact hne hb.2.1
theorem NetAt.row {w w':World} {g n base b:Nat} {L:List Pl} {cur:Array Value} {e':TypeId} {fr:Nat × Nat} (h:NetAt w g n base L) (hg:w.grownBy w' (some b)) (hb:base≤b) (hc:w.heap[b]?=some (.cells cur e' fr)) (hne:41≠e'):NetAt w' g n base L:=by
 obtain⟨v,B,h1,h2,h3,h4,h5⟩:=h.nd
 have hb':=h.hb
 have hlt:g < w.heap.size:=zM w _ h.cn
 have hgb:some g≠some b:=by simp;omega
 refine⟨hg.cell h.cn hgb,hg.cell h.ch hgb,fun j=>(zFb (hg.block g hlt hgb)).trans (h.fr j),⟨h.hb.1,Nat.le_trans h.hb.2 hg.size⟩,v,B,hg.cell h1 hgb,hg.cell h2 hgb,h3.kept hg (.inr (row_ne h3 hc hne)),h4.kept hg (by simp;omega),h5⟩
theorem own_some {w:World} {base:Nat} {e:TypeId} {size:Nat} {v:Value} {n:Nat} {xs:List Value} (h:w.ownsRow base e size v n xs) (hn:0 < n):∃ g cap cur,v=.slice (some ⟨g,0,none⟩) n cap∧n≤cap∧base≤g∧w.heap[g]?=some (.cells cur e (0,0)):=by
 rcases h.2 with ⟨rfl,rfl⟩|⟨g,cap,cur,rfl,hb,hg,hc,_⟩
 ·omega
 ·exact⟨g,cap,cur,rfl,hc,hb,hg⟩
def sort3 (d:List I3):List I3:=d.mergeSort fun x y=>decide (¬ lt3 y x)
def sort2 (d:List I2):List I2:=d.mergeSort fun x y=>decide (¬ lt2 y x)
theorem sort3_one {d d':List I3} (h:d'.Perm d) (hs:d'.Pairwise (fun x y=>¬ lt3 y x)):d'=sort3 d:=by
 refine List.Perm.eq_of_pairwise (le:=fun x y=>¬ lt3 y x) ?_ hs ?_ (h.trans (List.mergeSort_perm _ _).symm)
 ·intro a b _ _ h1 h2
  obtain⟨a0,a1,a2⟩:=a
  obtain⟨b0,b1,b2⟩:=b
  unfold lt3 at h1 h2
  simp only at h1 h2
  have e0:a0=b0:=by omega
  have e1:a1=b1:=by omega
  have e2:a2=b2:=by omega
  rw[e0,e1,e2]
 ·have:=List.pairwise_mergeSort (le:=fun x y:I3=>decide (¬ lt3 y x)) (fun a b c h1 h2=>zDt (by have a1:=of_decide_eq_true h1;have a2:=of_decide_eq_true h2;unfold lt3 at *;omega)) (fun a b=>by rcases (show ¬ lt3 b a∨¬ lt3 a b by unfold lt3;omega) with h|h<;>simp[h]) d
  exact this.imp (fun h=>by simpa using h)
theorem sort2_one {d d':List I2} (h:d'.Perm d) (hs:d'.Pairwise (fun x y=>¬ lt2 y x)):d'=sort2 d:=by
 refine List.Perm.eq_of_pairwise (le:=fun x y=>¬ lt2 y x) ?_ hs ?_ (h.trans (List.mergeSort_perm _ _).symm)
 ·intro a b _ _ h1 h2
  obtain⟨a0,a1⟩:=a
  obtain⟨b0,b1⟩:=b
  unfold lt2 at h1 h2
  simp only at h1 h2
  have e0:a0=b0:=by omega
  have e1:a1=b1:=by omega
  rw[e0,e1]
 ·have:=List.pairwise_mergeSort (le:=fun x y:I2=>decide (¬ lt2 y x)) (fun a b c h1 h2=>zDt (by have a1:=of_decide_eq_true h1;have a2:=of_decide_eq_true h2;unfold lt2 at *;omega)) (fun a b=>by rcases (show ¬ lt2 b a∨¬ lt2 a b by unfold lt2;omega) with h|h<;>simp[h]) d
  exact this.imp (fun h=>by simpa using h)
theorem cells3_pos {n:Nat} (h1:1≤n):0 < (cells3 n).length:=by
 have h0:tri (nodesL n) ⟨(cpos n 0 0 0).f,(cpos n 0 0 0).a+hh n,(cpos n 0 0 0).b,(cpos n 0 0 0).c⟩ ⟨(cpos n 0 0 0).f,(cpos n 0 0 0).a,(cpos n 0 0 0).b+hh n,(cpos n 0 0 0).c⟩ ⟨(cpos n 0 0 0).f,(cpos n 0 0 0).a,(cpos n 0 0 0).b,(cpos n 0 0 0).c+hh n⟩∈cellsRaw n:=by
  simp only[cellsRaw,cF,cA,cB,List.mem_flatMap,List.mem_range]
  exact⟨0,by omega,0,by omega,0,by omega,by unfold cellsAt;exact List.mem_cons_self ..⟩
 have:=List.length_pos_of_mem h0
 simpa[cells3] using this
theorem len_nodes {n:Nat} (hn:n≤8):(nodesL n).length≤2000:=by
 have h1:(nodesL n).length≤(faces n 20).length:=List.length_filter_le _ _
 have h2:=len_faces n 20
 have h3:20*((n+1)*(n+1))≤20*(9*9):=Nat.mul_le_mul (Nat.le_refl _) (Nat.mul_le_mul (by omega) (by omega))
 omega
theorem holds3_get {w:World} {b:Nat} {d:List I3} (h:HoldsK enc3 3 w b 0 d.toArray) (k:Nat) (hk:k < d.length):w.cell? ⟨b,k*3,none⟩=some (.int .i64 d[k].1)∧w.cell? ⟨b,k*3+1,none⟩=some (.int .i64 d[k].2.1)∧w.cell? ⟨b,k*3+2,none⟩=some (.int .i64 d[k].2.2):=by
 have hk':k < d.toArray.size:=by simpa using hk
 have e:∀ j,j / 3=k→d.toArray[j / 3]! = d[k]:=fun j hj=>by rw[hj,getElem!_pos d.toArray k hk'];simp
 have h0:=(h (k*3) (by rw[size_flatK];omega)).1
 have h1:=(h (k*3+1) (by rw[size_flatK];omega)).1
 have h2:=(h (k*3+2) (by rw[size_flatK];omega)).1
 rw[get_flatK _ _ _ _ (by omega),e _ (by omega),show k*3 % 3=0 by omega,Nat.zero_add] at h0
 rw[get_flatK _ _ _ _ (by omega),e _ (by omega),show (k*3+1) % 3=1 by omega,Nat.zero_add] at h1
 rw[get_flatK _ _ _ _ (by omega),e _ (by omega),show (k*3+2) % 3=2 by omega,Nat.zero_add] at h2
 exact⟨h0,h1,h2⟩
def eds (c:I3):List I2:=[(c.1,c.2.1),(c.1,c.2.2),(c.2.1,c.2.2)]
def edTo (d:List I3) (k:Nat):List I2:=(d.take k).flatMap eds
theorem edTo_succ {d:List I3} {k:Nat} (hk:k < d.length):edTo d (k+1)=edTo d k ++ eds d[k]:=by
 unfold edTo
 rw[List.take_succ_eq_append_getElem hk,List.flatMap_append];simp
theorem edTo_len (d:List I3):∀ k,k≤d.length→(edTo d k).length=k*3
 |0,_=>by simp[edTo]
 |k+1,h=>by rw[edTo_succ h,List.length_append,edTo_len d k (by omega)];simp[eds];omega
theorem elEd:RX.ElemOf Tryz.prog 112 139 (.agg #[.int .i64 0,.int .i64 0]) 2 16:=⟨Tryz.underlying112,by kernel_rfl,rfl,by decide⟩
def NextAt (w:World) (N M base:Nat) (ls:Nat→List Int):Prop:=∃ vs:Nat→Value,w.rowIs N 22 M vs∧(∀ i,i < M→w.ownsRow base 3 1 (vs i) (ls i).length ((ls i).map (Value.int .i64)))∧
 (∀ i j,i < M→j < M→i≠j→(vs i).ownBlock=none∨(vs i).ownBlock≠(vs j).ownBlock)
theorem NextAt.made (w:World) (M base:Nat):NextAt (w.alloc (.cells (madeCells #[.slice none 0 0] M) 22)) w.heap.size M base (fun _=>[]):=
 ⟨fun _=>.slice none 0 0,World.rowIs_made w _ M _,fun _ _=>World.ownsRow_nil _ _ _ _,fun _ _ _ _ _=>.inl rfl⟩
theorem NextAt.kept {w w':World} {N M base:Nat} {ls:Nat→List Int} {row:Option Nat} (h:NextAt w N M base ls) (hg:w.grownBy w' row) (hr:∀ k,row=some k→w.heap.size≤k∨k < base∧k≠N) (hN:N < w.heap.size):NextAt w' N M base ls:=by
 obtain⟨vs,h1,h2,h3⟩:=h
 refine⟨vs,h1.of_block (hg.block N hN (fun e=>?_)),fun i hi=>(h2 i hi).kept hg ?_,h3⟩
 ·rcases hr N e.symm with h|h
  ·omega
  ·exact h.2 rfl
 ·cases ho:(vs i).ownBlock with
  |none=>exact .inl rfl
  |some k=>
   have hk:=(h2 i hi).lt k ho
   refine .inr fun e=>?_
   rcases hr k e.symm with h|h<;>omega
theorem NextAt.lt {w:World} {N M base:Nat} {ls:Nat→List Int} (h:NextAt w N M base ls):N < w.heap.size:=by
 obtain⟨vs,h1,_⟩:=h;exact h1.lt
def addTo (ls:Nat→List Int) (a:Nat) (x:Int):Nat→List Int:=fun i=>if i=a then ls i ++ [x] else ls i
theorem NextAt.push {w w':World} {N M base:Nat} {ls:Nat→List Int} {vs:Nat→Value} (h1:w.rowIs N 22 M vs) (h2:∀ i,i < M→w.ownsRow base 3 1 (vs i) (ls i).length ((ls i).map (Value.int .i64)))
  (h3:∀ i j,i < M→j < M→i≠j→(vs i).ownBlock=none∨(vs i).ownBlock≠(vs j).ownBlock) {a:Nat} (ha:a < M) {x:Int} {v':Value} {b0:Nat} (hg:w.grownBy w' (vs a).ownBlock)
  (hown:w'.ownsRow base 3 1 v' ((ls a).length+1) ((ls a).map (Value.int .i64) ++ [.int .i64 x])) (hat:v'.ownBlock=(vs a).ownBlock∨v'.ownBlock=some b0) (hb0:w.heap.size≤b0) (hN:N < base):NextAt (w'.setCell ⟨N,a,none⟩ v') N M base (addTo ls a x):=by
 have hNe:∀ i,i < M→(vs i).ownBlock≠some N:=fun i hi e=>by have:=((h2 i hi).lt N e).1;omega
 refine⟨fun i=>if i=a then v' else vs i,(h1.of_block (hg.block N h1.lt (Ne.symm (hNe a ha)))).set a v',fun i hi=>?_,fun i j hi hj hij=>?_⟩
 ·dsimp only
  by_cases hia:i=a
  ·subst hia
   have e:addTo ls i x i=ls i ++ [x]:=by simp[addTo]
   rw[e,if_pos rfl,List.length_append,List.map_append]
   exact ownsRow_setCell_other hown (fun e=>by have h9:=(hown.lt N e).1;omega) _
  ·have e:addTo ls a x i=ls i:=by simp[addTo,hia]
   rw[e,if_neg hia]
   exact ownsRow_setCell_other ((h2 i hi).kept hg (h3 i a hi ha hia)) (hNe i hi) _
 ·have hlow:∀ i,i < M→(vs i).ownBlock=some b0→False:=fun i hi e=>by have:=((h2 i hi).lt b0 e).2;omega
  dsimp only
  by_cases hia:i=a
  ·subst hia
   rw[if_pos rfl,if_neg (Ne.symm hij)]
   rcases hat with h|h
   ·rw[h];exact h3 i j hi hj hij
   ·rw[h];exact .inr fun e=>hlow j hj e.symm
  ·rw[if_neg hia]
   by_cases hja:j=a
   ·subst hja
    rw[if_pos rfl]
    rcases hat with h|h
    ·rw[h];exact h3 i j hi hj hij
    ·rw[h];exact .inr fun e=>hlow i hi e
   ·rw[if_neg hja];exact h3 i j hi hj hij
def adjTo (D:List I2) (k:Nat):Nat→List Int:=(D.take k).foldl (fun l e=>addTo (addTo l e.1.toNat e.2) e.2.toNat e.1) (fun _=>[])
theorem adjTo_zero (D:List I2):adjTo D 0=fun _=>[]:=by simp[adjTo]
theorem adjTo_succ {D:List I2} {k:Nat} (hk:k < D.length):adjTo D (k+1)=addTo (addTo (adjTo D k) D[k].1.toNat D[k].2) D[k].2.toNat D[k].1:=by
 unfold adjTo
 rw[List.take_succ_eq_append_getElem hk,List.foldl_append];rfl
theorem addTo_len (ls:Nat→List Int) (a:Nat) (x:Int) (i:Nat):(addTo ls a x i).length≤(ls i).length+1:=by
 unfold addTo;split<;>simp
theorem adjTo_len (D:List I2) (i:Nat):∀ k,k≤D.length→(adjTo D k i).length≤2*k
 |0,_=>by simp[adjTo]
 |k+1,h=>by
  rw[adjTo_succ (by omega)]
  have h0:=adjTo_len D i k (by omega)
  have h1:=addTo_len (adjTo D k) D[k].1.toNat D[k].2 i
  have h2:=addTo_len (addTo (adjTo D k) D[k].1.toNat D[k].2) D[k].2.toNat D[k].1 i
  omega
theorem elInt:RX.ElemOf Tryz.prog 22 3 (.int .i64 0) 1 8:=⟨Tryz.underlying22,by kernel_rfl,rfl,by decide⟩
def RowI (w:World) (v:Value) (zs:List Int):Prop:=∃ p cap b,v=.slice p zs.length cap∧zs.length≤cap∧(0 < zs.length→p=some ⟨b,0,none⟩∧v.ownBlock=some b)∧IntsAt w b 0 zs
theorem RowI.of_own {w:World} {base:Nat} {v:Value} {zs:List Int} (h:w.ownsRow base 3 1 v zs.length (zs.map (Value.int .i64))):RowI w v zs:=by
 by_cases h0:0 < zs.length
 ·obtain⟨g,cap,cur,rfl,hc,_,_⟩:=own_some h h0
  refine⟨_,cap,g,rfl,hc,fun _=>⟨rfl,rfl⟩,fun j hj=>⟨?_,?_⟩⟩
  ·rw[Nat.zero_add,h.cellAt j (by omega)];simp[hj]
  ·rw[Nat.zero_add];exact h.frozenAt j
 ·obtain⟨p,cap,rfl,hc⟩:=own_slice h
  exact⟨p,cap,0,rfl,hc,fun h=>absurd h h0,fun j hj=>absurd (Nat.lt_of_le_of_lt (Nat.zero_le _) hj) h0⟩
theorem RowI.kept {w w':World} {v:Value} {zs:List Int} (h:RowI w v zs) (hb:∀ k,v.ownBlock=some k→w'.heap[k]?=w.heap[k]?):RowI w' v zs:=by
 obtain⟨p,cap,b,h1,h2,h3,h4⟩:=h
 refine⟨p,cap,b,h1,h2,h3,fun j hj=>?_⟩
 have:=hb b (h3 (Nat.lt_of_le_of_lt (Nat.zero_le _) hj)).2
 exact⟨(World.cell?_of_block this).trans (h4 j hj).1,(zFb this).trans (h4 j hj).2⟩
def NextR (w:World) (N M base:Nat) (ls:Nat→List Int):Prop:=∃ vs:Nat→Value,w.rowIs N 22 M vs∧(∀ i,i < M→RowI w (vs i) (ls i)∧∀ k,(vs i).ownBlock=some k→base≤k∧k < w.heap.size)∧
 (∀ i j,i < M→j < M→i≠j→(vs i).ownBlock=none∨(vs i).ownBlock≠(vs j).ownBlock)
theorem NextR.of_next {w:World} {N M base:Nat} {ls:Nat→List Int} (h:NextAt w N M base ls):NextR w N M base ls:=by
 obtain⟨vs,h1,h2,h3⟩:=h
 exact⟨vs,h1,fun i hi=>⟨RowI.of_own (h2 i hi),(h2 i hi).lt⟩,h3⟩
theorem NextR.lt {w:World} {N M base:Nat} {ls:Nat→List Int} (h:NextR w N M base ls):N < w.heap.size:=by
 obtain⟨vs,h1,_⟩:=h;exact h1.lt
theorem NextR.congr {w:World} {N M base:Nat} {ls ls':Nat→List Int} (h:NextR w N M base ls) (e:∀ i,i < M→ls i=ls' i):NextR w N M base ls':=by
 obtain⟨vs,h1,h2,h3⟩:=h
 exact⟨vs,h1,fun i hi=>by rw[←e i hi];exact h2 i hi,h3⟩
theorem NextR.below {w w':World} {N M base:Nat} {ls:Nat→List Int} (h:NextR w N M base ls) (hb:Below w.heap.size w w'):NextR w' N M base ls:=by
 obtain⟨vs,h1,h2,h3⟩:=h
 refine⟨vs,h1.of_block (hb.block _ h1.lt),fun i hi=>?_,h3⟩
 obtain⟨h4,h5⟩:=h2 i hi
 exact⟨h4.kept (fun k hk=>hb.block k (h5 k hk).2),fun k hk=>⟨(h5 k hk).1,Nat.lt_of_lt_of_le (h5 k hk).2 hb.size⟩⟩
def setTo (ls:Nat→List Int) (a:Nat) (zs:List Int):Nat→List Int:=fun i=>if i=a then zs else ls i
theorem sortRow_any {w:World} {N M base:Nat} {ls:Nat→List Int} {vs:Nat→Value} (hN:N < base) (h1:w.rowIs N 22 M vs) (h2:∀ i,i < M→RowI w (vs i) (ls i)∧∀ k,(vs i).ownBlock=some k→base≤k∧k < w.heap.size)
  (h3:∀ i j,i < M→j < M→i≠j→(vs i).ownBlock=none∨(vs i).ownBlock≠(vs j).ownBlock) {a:Nat} (ha:a < M) (hl:(ls a).length≤100000) :
  Calls Tryz.prog 90 #[vs a] w fun e w'=>e=.returned (.tuple #[])∧(∃ b,w.grownBy w' (some b)∧base≤b)∧NextR w' N M base (setTo ls a (sorted (ls a))):=by
 obtain⟨⟨p,cap,b,hv,hc,hp,hI⟩,hlow⟩:=h2 a ha
 have key:∀ b',(0 < (ls a).length→b'=b)→(∀ k,(vs a).ownBlock=some k→k < w.heap.size∧(0 < (ls a).length∨b'≠k))→(∀ i,i < M→i≠a→(vs i).ownBlock≠some b')→base≤b'→N≠b'→
   Calls Tryz.prog 90 #[vs a] w fun e w'=>e=.returned (.tuple #[])∧(∃ b,w.grownBy w' (some b)∧base≤b)∧NextR w' N M base (setTo ls a (sorted (ls a))):=by
  intro b' hb' hown hoth hbase hNb
  rw[hv]
  refine (sortInts_any b' 0 cap p (ls a) w (fun h=>by rw[hb' h];exact (hp h).1) ?_ (by omega)).mono ?_
  ·intro j hj
   rw[hb' (Nat.lt_of_le_of_lt (Nat.zero_le _) hj)]
   exact hI j hj
  rintro e w' ⟨rfl,hg,hS⟩
  refine⟨rfl,⟨b',hg,hbase⟩,vs,h1.of_block (hg.block N h1.lt (by simpa using hNb)),fun i hi=>?_,h3⟩
  unfold setTo
  by_cases hia:i=a
  ·subst hia
   rw[if_pos rfl]
   refine⟨⟨p,cap,b',by rw[sorted_len];exact hv,by rw[sorted_len];exact hc,fun h=>?_,hS⟩,fun k hk=>⟨(hlow k hk).1,Nat.lt_of_lt_of_le (hlow k hk).2 hg.size⟩⟩
   rw[sorted_len] at h
   rw[hb' h]
   exact hp h
  ·rw[if_neg hia]
   obtain⟨h4,h5⟩:=h2 i hi
   exact⟨h4.kept (fun k hk=>hg.block k (h5 k hk).2 (fun e=>hoth i hi hia (by rw[hk];exact e))),fun k hk=>⟨(h5 k hk).1,Nat.lt_of_lt_of_le (h5 k hk).2 hg.size⟩⟩
 by_cases h0:0 < (ls a).length
 ·obtain⟨hp1,hp2⟩:=hp h0
  have hb:=hlow b hp2
  refine key b (fun _=>rfl) (fun k hk=>⟨(hlow k hk).2,.inl h0⟩) (fun i hi hia e=>?_) hb.1 (by omega)
  rcases h3 i a hi ha hia with h|h
  ·rw[h] at e;cases e
  ·rw[hp2] at h;exact h e
 ·refine key (base+w.heap.size) (fun h=>absurd h h0) (fun k hk=>⟨(hlow k hk).2,.inr (by have:=(hlow k hk).2;omega)⟩) (fun i hi _ e=>?_) (by omega) (by have:=h1.lt;omega)
  have:=((h2 i hi).2 _ e).2
  omega
def cellsS (n:Nat):List I3:=sort3 (cells3 n)
def edRaw (n:Nat):List I2:=edTo (cellsS n) (cellsS n).length
def edgesL (n:Nat):List I2:=comp (sort2 (edRaw n)) (sort2 (edRaw n)).length
def nextL (n:Nat) (i:Nat):List Int:=sorted (adjTo (edgesL n) (edgesL n).length i)
theorem mem_comp {d:List I2} {m:Nat} (hm:m≤d.length) {x:I2} (h:x∈comp d m):x∈d:=by
 unfold comp at h
 obtain⟨j,hj,rfl⟩:=List.mem_map.1 h
 have hj':j < m:=List.mem_range.1 (List.mem_filter.1 hj).1
 have:j < d.length:=by omega
 simp[List.getD,List.getElem?_eq_getElem this]
theorem comp_pos {d:List I2} (h:0 < d.length):0 < (comp d d.length).length:=by
 have h0:d.getD 0 (0,0)∈comp d d.length:=by
  unfold comp
  exact List.mem_map.2 ⟨0,List.mem_filter.2 ⟨List.mem_range.2 h,by simp[newAt]⟩,rfl⟩
 exact List.length_pos_of_mem h0
theorem nodes_pos {n:Nat} (h1:1≤n) (h2:n≤8):0 < (nodesL n).length:=
 List.length_pos_of_mem (normal_mem (f:=0) (a:=0) (b:=0) (hh_mul h1 h2) (by omega) (by omega))
theorem atI_in {n:Nat} (h1:1≤n) (h2:n≤8) (p:Pl):0≤atI (nodesL n) p∧atI (nodesL n) p < ((nodesL n).length:Int):=by
 have hp:=nodes_pos h1 h2
 unfold atI
 refine⟨by omega,?_⟩
 cases e:ix (nodesL n) (normal p) with
 |none=>simp;omega
 |some i=>
  obtain⟨hi,_⟩:=ix_some e
  simp;omega
theorem cells_in {n:Nat} (h1:1≤n) (h2:n≤8):∀ c∈cells3 n,(0≤c.1∧c.1 < ((nodesL n).length:Int))∧(0≤c.2.1∧c.2.1 < ((nodesL n).length:Int))∧(0≤c.2.2∧c.2.2 < ((nodesL n).length:Int)):=by
 intro c hc
 obtain⟨l,hl,rfl⟩:=List.mem_map.1 hc
 have key:∀ p q r:Pl,∀ x∈tri (nodesL n) p q r,0≤x∧x < ((nodesL n).length:Int):=by
  intro p q r x hx
  have:=(sorted_perm _).mem_iff.1 hx
  simp at this
  rcases this with rfl|rfl|rfl<;>exact atI_in h1 h2 _
 have hall:∀ x∈l,0≤x∧x < ((nodesL n).length:Int):=by
  simp only[cellsRaw,cF,cA,cB,List.mem_flatMap,List.mem_range] at hl
  obtain⟨f,_,a,_,b,_,hl⟩:=hl
  unfold cellsAt at hl
  rcases List.mem_cons.1 hl with rfl|hl
  ·exact key _ _ _
  ·split at hl
   ·rw[List.mem_singleton] at hl;subst hl;exact key _ _ _
   ·cases hl
 have h3:=cells_three n l hl
 match l,h3,hall with
 |[x,y,z],_,hall=>exact⟨hall x (by simp),hall y (by simp),hall z (by simp)⟩
theorem edges_in {n:Nat} (h1:1≤n) (h2:n≤8):∀ e∈edgesL n,0≤e.1∧e.1 < ((nodesL n).length:Int)∧0≤e.2∧e.2 < ((nodesL n).length:Int):=by
 intro e he
 have he:=(List.mergeSort_perm _ _).mem_iff.1 (mem_comp (Nat.le_refl _) he)
 unfold edRaw edTo at he
 rw[List.take_length] at he
 obtain⟨c,hc,he⟩:=List.mem_flatMap.1 he
 have hc:=(List.mergeSort_perm _ _).mem_iff.1 hc
 obtain⟨⟨a1,a2⟩,⟨b1,b2⟩,⟨c1,c2⟩⟩:=cells_in h1 h2 c hc
 simp only[eds,List.mem_cons,List.not_mem_nil,or_false] at he
 rcases he with rfl|rfl|rfl<;>exact⟨by assumption,by assumption,by assumption,by assumption⟩
theorem edges_pos {n:Nat} (h1:1≤n):0 < (edgesL n).length:=by
 refine comp_pos ?_
 unfold sort2
 rw[List.length_mergeSort]
 unfold edRaw
 rw[edTo_len _ _ (Nat.le_refl _)]
 have:=cells3_pos h1
 unfold cellsS sort3
 rw[List.length_mergeSort]
 omega
structure NetFull (w:World) (g n:Nat):Prop where
 net:NetAt w g n (g+1) (nodesL n)
 cells:∃ b cap,w.cell? ⟨g,4,none⟩=some (.slice (some ⟨b,0,none⟩) (cellsS n).length cap)∧(cellsS n).length≤cap∧HoldsK enc3 3 w b 0 (cellsS n).toArray∧g < b
 edges:∃ b cap,w.cell? ⟨g,5,none⟩=some (.slice (some ⟨b,0,none⟩) (edgesL n).length cap)∧(edgesL n).length≤cap∧PairsAt w b (edgesL n)∧g < b
 next:∃ N,w.cell? ⟨g,6,none⟩=some (.slice (some ⟨N,0,none⟩) (nodesL n).length (nodesL n).length)∧NextR w N (nodesL n).length (N+1) (nextL n)∧g < N
end Go.Proofs.YtednaajanciabaaGreatDoor
