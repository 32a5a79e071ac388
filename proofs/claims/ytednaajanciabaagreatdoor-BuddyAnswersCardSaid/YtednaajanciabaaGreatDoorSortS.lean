import Derived.Test.YtednaajanciabaaGreatDoorKSort
import Derived.Test.YtednaajanciabaaGreatDoorKLoc
import Derived.Test.YtednaajanciabaaGreatDoorKEdges
set_option maxRecDepth 100000
set_option maxHeartbeats 8000000
set_option linter.unusedSimpArgs false
set_option linter.unusedVariables false
namespace Go.Proofs.YtednaajanciabaaGreatDoor
open Go.RowKit Go.Sort Go.Shelf Go.Grid
abbrev Sh:=Fin 100000 × Int
def encS (x:Sh):List Value:=[.int .i64 (x.1.val:Int),.int .i64 x.2]
def cfS (x y:Sh):Int:=(x.1.val:Int)-(y.1.val:Int)
theorem ltOfS_iff (x y:Sh):ltOf cfS x y=true↔x.1.val < y.1.val:=by
 unfold ltOf cfS;rw[decide_eq_true_eq];omega
theorem ltOfS_not (x y:Sh):ltOf cfS x y=false↔¬ x.1.val < y.1.val:=by rw[←ltOfS_iff,Bool.not_eq_true]
theorem swoS:SWO (ltOf cfS) where
 irrefl:=fun x=>(ltOfS_not x x).2 (by omega)
 trans:=fun x y z h1 h2=>(ltOfS_iff _ _).2 (by have a:=(ltOfS_iff _ _).1 h1;have b:=(ltOfS_iff _ _).1 h2;omega)
 ntrans:=fun x y z h1 h2=>(ltOfS_not _ _).2 (by have a:=(ltOfS_not _ _).1 h1;have b:=(ltOfS_not _ _).1 h2;omega)
theorem lessShare (x y:Sh) (w:World):Calls Tryz.prog 122 #[.agg #[.int .i64 (x.1.val:Int),.int .i64 x.2],.agg #[.int .i64 (y.1.val:Int),.int .i64 y.2]] w fun e w'=>e=.returned (.int .i64 (cfS x y))∧∃ q os',w'=grow (w.drewN q) os':=by
 obtain⟨⟨x0,hx⟩,x1⟩:=x
 obtain⟨⟨y0,hy⟩,y1⟩:=y
 dsimp only
 have HC:Hid (cfS (⟨x0,hx⟩,x1) (⟨y0,hy⟩,y1)=(x0:Int)-y0):=zN rfl
 go_enter Tryz.func122,Tryz.ntmps122
 go_wp2
 go_ret
 rw[HC.out]
 exact⟨rfl,0,_,by rw[alloc_eq_grow,alloc_eq_grow,grow_grow];rfl⟩
theorem enters_lessShare:∀ args w,(callFunc 122 args).run Tryz.prog w=.ok (.enter 122 args) w:=enters_of Tryz.func122 (by kernel_rfl) rfl
theorem sortSh_any (w:World) (g:Nat) (d:List Sh) (cap:Nat) (h0:0 < d.length) (h:HoldsK encS 2 w g 0 d.toArray) (hcap:d.length≤cap) (hcap':d.length≤1000000) :
  Calls Tryz.prog 121 #[.slice (some ⟨g,0,none⟩) d.length cap,.func (.func 122) #[] #[]] w fun e w'=>e=.returned (.tuple #[])∧w.grownBy w' (some g)∧∃ d':List Sh,d'.Perm d∧d'.Pairwise (fun x y=>¬ y.1.val < x.1.val)∧HoldsK encS 2 w' g 0 d'.toArray:=by
 have hblk:g < w.heap.size:=by
  have h1:=h 0 (by rw[size_flatK];simp;omega)
  exact zM w _ h1.1
 have hs:=AnyQ.slices_SortFunc Tryz.sortShare 2 Tryz.isAgg123 Tryz.sizeOf123 encS (fun _=>rfl) (fun x v hv=>by simp[encS] at hv;rcases hv with rfl|rfl<;>rfl) cfS swoS 122 #[] g 0 cap d.toArray w enters_lessShare (fun _ _ _ _ x y=>lessShare x y _) h hblk (by simp;omega)
 rw[show d.toArray.size=d.length by simp] at hs
 change Calls Tryz.prog 121 _ _ _ at hs
 refine hs.mono ?_
 rintro e w' ⟨rfl,d',n,os,hperm,hsort,rfl⟩
 refine⟨rfl,?_,d'.toList,?_,?_,?_⟩
 ·refine⟨rfl,rfl,rfl,size_sortWorldK_c _ _ _ _ _ _ _ _,fun k hk hne=>?_⟩
  have hne':g≠k:=fun e=>hne (by rw[e])
  show (w.heap.modify g _ ++ os)[k]?=w.heap[k]?
  rw[Array.getElem?_append_left (by simpa using hk),Array.getElem?_modify,if_neg hne']
 ·have h1:=hperm.1
  have h2:=hperm.2.2
  have h3:d'.extract 0 d.length=d':=by rw[show d.length=d'.size by simp[h1]];simp
  rw[h3] at h2
  simpa using h2
 ·have h1:=hperm.1
  rw[List.pairwise_iff_getElem]
  intro i j hi hj hij
  have hi':i < d'.size:=by simpa using hi
  have hj':j < d'.size:=by simpa using hj
  have h2:=hsort i j (Nat.zero_le _) hij (by rw[h1] at hj';simpa using hj')
  rw[ltOfS_not,getElem!_pos d' j hj',getElem!_pos d' i hi'] at h2
  simpa using h2
 ·have:=holdsK_sortWorldK encS 2 w g 0 n d.toArray d' os hblk h (by simpa using hperm.1)
  simpa using this
def SharesAt (w:World) (b:Nat) (S:List (Nat × Nat)):Prop:=∀ k (h:k < S.length),w.cell? ⟨b,k*2,none⟩=some (.int .i64 (S[k].1:Int))∧w.cell? ⟨b,k*2+1,none⟩=some (.int .i64 (S[k].2:Int))
def toSh (x:Nat × Nat):Sh:=(⟨x.1 % 100000,Nat.mod_lt _ (by omega)⟩,(x.2:Int))
def ofSh (x:Sh):Nat × Nat:=(x.1.val,x.2.toNat)
def encN (x:Nat × Nat):List Value:=[.int .i64 (x.1:Int),.int .i64 (x.2:Int)]
theorem ofSh_toSh {x:Nat × Nat} (h:x.1 < 100000):ofSh (toSh x)=x:=by
 obtain⟨a,b⟩:=x
 simp only[ofSh,toSh,Int.toNat_natCast]
 rw[Nat.mod_eq_of_lt h]
theorem encS_toSh {x:Nat × Nat} (h:x.1 < 100000):encS (toSh x)=encN x:=by
 obtain⟨a,b⟩:=x
 simp only[encS,toSh,encN]
 rw[Nat.mod_eq_of_lt h]
theorem flat_toSh:∀ {S:List (Nat × Nat)},(∀ x∈S,x.1 < 100000)→(S.map toSh).flatMap encS=S.flatMap encN
 |[],_=>rfl
 |x :: S,h=>by
  rw[List.map_cons,List.flatMap_cons,List.flatMap_cons,encS_toSh (h x (by simp)),flat_toSh (fun y hy=>h y (List.mem_cons_of_mem _ hy))]
theorem map_ofSh:∀ {S:List (Nat × Nat)},(∀ x∈S,x.1 < 100000)→(S.map toSh).map ofSh=S
 |[],_=>rfl
 |x :: S,h=>by
  rw[List.map_cons,List.map_cons,ofSh_toSh (h x (by simp)),map_ofSh (fun y hy=>h y (List.mem_cons_of_mem _ hy))]
theorem sortShares_any (w:World) (base g:Nat) (S:List (Nat × Nat)) (cap:Nat) (h0:0 < S.length) (hS:∀ x∈S,x.1 < 100000) (hd:S.Pairwise (fun c d=>c.1≠d.1)) (hown:w.ownsRow base 123 2 (.slice (some ⟨g,0,none⟩) S.length cap) S.length (S.flatMap encN)) (hcap:S.length≤cap) (hcap':S.length≤1000) :
  Calls Tryz.prog 121 #[.slice (some ⟨g,0,none⟩) S.length cap,.func (.func 122) #[] #[]] w fun e w'=>e=.returned (.tuple #[])∧w.grownBy w' (some g)∧∃ T:List (Nat × Nat),T.Perm S∧Asc T∧SharesAt w' g T:=by
 have hH:HoldsK encS 2 w g 0 (S.map toSh).toArray:=own_holds (k:=2) (by decide) (fun _=>rfl) (by rw[flat_toSh hS];exact hown) (by simp)
 have hs:=sortSh_any w g (S.map toSh) cap (by simpa using h0) hH (by simpa using hcap) (by simp;omega)
 rw[List.length_map] at hs
 refine hs.mono ?_
 rintro e w' ⟨rfl,hg,d',hperm,hsort,hH'⟩
 have hp:(d'.map ofSh).Perm S:=by have:=hperm.map ofSh;rwa[map_ofSh hS] at this
 have hmem:∀ x∈d',∃ y∈S,x=toSh y:=fun x hx=>by
  obtain⟨y,hy,e⟩:=List.mem_map.1 (hperm.mem_iff.1 hx);exact⟨y,hy,e.symm⟩
 refine⟨rfl,hg,d'.map ofSh,hp,?_,fun k hk=>?_⟩
 ·refine asc_of_le ?_ ?_
  ·rw[List.pairwise_map]
   exact hsort.imp (fun h=>by simp only[ofSh];omega)
  ·have:=(hp.pairwise_iff (R:=fun c d:Nat × Nat=>c.1≠d.1) (fun h=>Ne.symm h)).2 hd
   exact this
 ·have hk':k < d'.length:=by simpa using hk
  obtain⟨y,hy,e⟩:=hmem d'[k] (List.getElem_mem _)
  have hy1:=hS y hy
  have hk2:k < d'.toArray.size:=by simpa using hk'
  have eq1:∀ j,j / 2=k→d'.toArray[j / 2]! = d'[k]:=fun j hj=>by rw[hj,getElem!_pos d'.toArray k hk2];simp
  have h1:=(hH' (k*2) (by rw[size_flatK];omega)).1
  have h2:=(hH' (k*2+1) (by rw[size_flatK];omega)).1
  rw[get_flatK _ _ _ _ (by omega),eq1 _ (by omega),show k*2 % 2=0 by omega,Nat.zero_add,e] at h1
  rw[get_flatK _ _ _ _ (by omega),eq1 _ (by omega),show (k*2+1) % 2=1 by omega,Nat.zero_add,e] at h2
  rw[encS_toSh hy1] at h1 h2
  rw[show (d'.map ofSh)[k]=y by rw[List.getElem_map,e,ofSh_toSh hy1]]
  exact⟨h1,h2⟩
end Go.Proofs.YtednaajanciabaaGreatDoor
