import Derived.Test.YtednaajanciabaaGreatDoorKSort
import Derived.Test.YtednaajanciabaaGreatDoorKBPan
import Derived.Test.YtednaajanciabaaGreatDoorKBNear
set_option maxRecDepth 100000
set_option maxHeartbeats 8000000
set_option linter.unusedSimpArgs false
set_option linter.unusedVariables false
namespace Go.Proofs.YtednaajanciabaaGreatDoor
open Go.RowKit Go.Sort Go.Shelf
def encF (x:I2):List Value:=[.int .i64 x.1,.int .i64 x.2,.int .i64 6]
theorem lessFlag (x y:I2) (w:World):Calls Tryz.prog 45 #[.agg #[.int .i64 x.1,.int .i64 x.2,.int .i64 6],.agg #[.int .i64 y.1,.int .i64 y.2,.int .i64 6]] w fun e w'=>e=.returned (.int .i64 (cf2 x y))∧∃ q os',w'=grow (w.drewN q) os':=by
 obtain⟨x0,x1⟩:=x
 obtain⟨y0,y1⟩:=y
 dsimp only
 have HC:Hid (cf2 (x0,x1) (y0,y1)=orL [sgn x0 y0,sgn x1 y1]):=zN rfl
 go_enter Tryz.func45,Tryz.ntmps45
 go_wp2
 refine RX.region RX.fL (fun w'=>w'.cell? ⟨w.heap.size,0,none⟩=some (.int .i64 x0)∧w'.cell? ⟨w.heap.size,1,none⟩=some (.int .i64 x1)∧w'.cell? ⟨w.heap.size+1,0,none⟩=some (.int .i64 y0)∧w'.cell? ⟨w.heap.size+1,1,none⟩=some (.int .i64 y1)) (by kernel_rfl) (by kernel_rfl) ((by simp[zO,zJ,zQ])) (fun OPS HO QR hQR=>?_)
 repeat (refine zeX (fun R hR=>?_);(first|refine zaX (by first|rfl|(rw[HO.out];rfl)) (by simp only[zA,zB,zC,zD];rfl) ?_|refine zbX (by first|rfl|(rw[HO.out];rfl)) rfl (by first|exact .inl rfl|exact .inr rfl) (by simp only[zE,zF,zG,zH];rfl) (by simp only[zA,zB,zC,zD];rfl) ?_|refine zcX (by first|rfl|(rw[HO.out];rfl)) rfl rfl (by simp only[zE,zF,zG,zH];rfl) (by simp only[zA,zB,zC,zD];rfl) ?_|(refine zdX (by first|rfl|(rw[HO.out];rfl)) rfl rfl rfl ?_;apply zEx;apply zEx;refine⟨fun w' hS K hK=>?_,?_,?_⟩;(focus (obtain⟨hS1,hS2,hS3,hS4⟩:=hS;go_wp2;exact hK _ _ (by simp only[zl,zG,zH];first|exact zf (by omega)|exact zg (by omega)|exact zh (by omega)|exact zi (by omega)|exact zj (by omega)|exact zk (by omega)|exact RX.bneB _|rfl) rfl));(focus (simp only[zA,zB,zC,zD];rfl))));refine hR _ _ ?_;clear hR R)
 refine zeX (fun R hR=>?_)
 refine zgX (by first|rfl|(rw[HO.out];rfl)) rfl (fun K hK=>?_)
 go_wp2_with (go_at_call 47;refine (cmp_int _ _ _).mono ?_;rintro e w' ⟨rfl,rfl⟩)
 refine⟨(by simp[zO,zJ,zQ]),hR _ _ ?_⟩;clear hR R
 repeat (refine zeX (fun R hR=>?_);(first|refine zaX (by first|rfl|(rw[HO.out];rfl)) (by simp only[zA,zB,zC,zD];rfl) ?_|refine zbX (by first|rfl|(rw[HO.out];rfl)) rfl (by first|exact .inl rfl|exact .inr rfl) (by simp only[zE,zF,zG,zH];rfl) (by simp only[zA,zB,zC,zD];rfl) ?_|refine zcX (by first|rfl|(rw[HO.out];rfl)) rfl rfl (by simp only[zE,zF,zG,zH];rfl) (by simp only[zA,zB,zC,zD];rfl) ?_|(refine zdX (by first|rfl|(rw[HO.out];rfl)) rfl rfl rfl ?_;apply zEx;apply zEx;refine⟨fun w' hS K hK=>?_,?_,?_⟩;(focus (obtain⟨hS1,hS2,hS3,hS4⟩:=hS;go_wp2;exact hK _ _ (by simp only[zl,zG,zH];first|exact zf (by omega)|exact zg (by omega)|exact zh (by omega)|exact zi (by omega)|exact zj (by omega)|exact zk (by omega)|exact RX.bneB _|rfl) rfl));(focus (simp only[zA,zB,zC,zD];rfl))));refine hR _ _ ?_;clear hR R)
 refine zeX (fun R hR=>?_)
 refine zgX (by first|rfl|(rw[HO.out];rfl)) rfl (fun K hK=>?_)
 go_wp2_with (go_at_call 47;refine (cmp_int _ _ _).mono ?_;rintro e w' ⟨rfl,rfl⟩)
 refine⟨(by simp[zO,zJ,zQ]),hR _ _ ?_⟩;clear hR R
 repeat (refine zeX (fun R hR=>?_);(first|refine zaX (by first|rfl|(rw[HO.out];rfl)) (by simp only[zA,zB,zC,zD];rfl) ?_|refine zbX (by first|rfl|(rw[HO.out];rfl)) rfl (by first|exact .inl rfl|exact .inr rfl) (by simp only[zE,zF,zG,zH];rfl) (by simp only[zA,zB,zC,zD];rfl) ?_|refine zcX (by first|rfl|(rw[HO.out];rfl)) rfl rfl (by simp only[zE,zF,zG,zH];rfl) (by simp only[zA,zB,zC,zD];rfl) ?_|(refine zdX (by first|rfl|(rw[HO.out];rfl)) rfl rfl rfl ?_;apply zEx;apply zEx;refine⟨fun w' hS K hK=>?_,?_,?_⟩;(focus (obtain⟨hS1,hS2,hS3,hS4⟩:=hS;go_wp2;exact hK _ _ (by simp only[zl,zG,zH];first|exact zf (by omega)|exact zg (by omega)|exact zh (by omega)|exact zi (by omega)|exact zj (by omega)|exact zk (by omega)|exact RX.bneB _|rfl) rfl));(focus (simp only[zA,zB,zC,zD];rfl))));refine hR _ _ ?_;clear hR R)
 refine zeX (fun R hR=>?_)
 refine zgX (by first|rfl|(rw[HO.out];rfl)) rfl (fun K hK=>?_)
 go_wp2
 refine⟨(by simp[zO,zJ,zQ]),hR _ _ ?_⟩;clear hR R
 repeat (refine zeX (fun R hR=>?_);(first|refine zaX (by first|rfl|(rw[HO.out];rfl)) (by simp only[zA,zB,zC,zD];rfl) ?_|refine zbX (by first|rfl|(rw[HO.out];rfl)) rfl (by first|exact .inl rfl|exact .inr rfl) (by simp only[zE,zF,zG,zH];rfl) (by simp only[zA,zB,zC,zD];rfl) ?_|refine zcX (by first|rfl|(rw[HO.out];rfl)) rfl rfl (by simp only[zE,zF,zG,zH];rfl) (by simp only[zA,zB,zC,zD];rfl) ?_|(refine zdX (by first|rfl|(rw[HO.out];rfl)) rfl rfl rfl ?_;apply zEx;apply zEx;refine⟨fun w' hS K hK=>?_,?_,?_⟩;(focus (obtain⟨hS1,hS2,hS3,hS4⟩:=hS;go_wp2;exact hK _ _ (by simp only[zl,zG,zH];first|exact zf (by omega)|exact zg (by omega)|exact zh (by omega)|exact zi (by omega)|exact zj (by omega)|exact zk (by omega)|exact RX.bneB _|rfl) rfl));(focus (simp only[zA,zB,zC,zD];rfl))));refine hR _ _ ?_;clear hR R)
 refine zeX (fun R hR=>?_)
 refine zgX (by first|rfl|(rw[HO.out];rfl)) rfl (fun K hK=>?_)
 go_wp2_with fail
 refine (or_int _ _ _ [sgn x0 y0,sgn x1 y1] _ rfl ?_ (by simp)).mono ?_
 ·intro j v hj
  match j,hj with
  |0,hj=>simp at hj;subst hj;exact (by simp[zO,zJ,zQ])
  |1,hj=>simp at hj;subst hj;exact (by simp[zO,zJ,zQ])
 rintro e w' ⟨rfl,rfl⟩
 rw[←HC.out]
 refine hK _ _ ⟨(by simp[zO,zJ,zQ]),hR _ _ ?_⟩;clear hK K hR R
 repeat (refine zeX (fun R hR=>?_);(first|refine zaX (by first|rfl|(rw[HO.out];rfl)) (by simp only[zA,zB,zC,zD];rfl) ?_|refine zbX (by first|rfl|(rw[HO.out];rfl)) rfl (by first|exact .inl rfl|exact .inr rfl) (by simp only[zE,zF,zG,zH];rfl) (by simp only[zA,zB,zC,zD];rfl) ?_|refine zcX (by first|rfl|(rw[HO.out];rfl)) rfl rfl (by simp only[zE,zF,zG,zH];rfl) (by simp only[zA,zB,zC,zD];rfl) ?_|(refine zdX (by first|rfl|(rw[HO.out];rfl)) rfl rfl rfl ?_;apply zEx;apply zEx;refine⟨fun w' hS K hK=>?_,?_,?_⟩;(focus (go_wp2;exact hK _ _ (by simp only[zl,zG,zH];first|exact zf (by omega)|exact zg (by omega)|exact zh (by omega)|exact zi (by omega)|exact zj (by omega)|exact zk (by omega)|exact RX.bneB _|rfl) rfl));(focus (simp only[zA,zB,zC,zD];rfl))));refine hR _ _ ?_;clear hR R)
 refine RX.wpL_nil (hQR _ _ ((by simp[zO,zJ,zQ])) ?_);clear hQR QR HO OPS
 go_wp2
 go_ret
 exact⟨rfl,1,_,by rw[alloc_eq_grow,alloc_eq_grow,alloc_eq_grow,grow_grow,grow_grow];rfl⟩
theorem enters_lessFlag:∀ args w,(callFunc 45 args).run Tryz.prog w=.ok (.enter 45 args) w:=enters_of Tryz.func45 (by kernel_rfl) rfl
theorem sortFlag_any (w:World) (g:Nat) (d:List I2) (p:Option Addr) (cap:Nat) (hp:0 < d.length→p=some ⟨g,0,none⟩) (h:HoldsK encF 3 w g 0 d.toArray) (hcap:d.length≤cap) (hcap':d.length≤1000000) :
  Calls Tryz.prog 44 #[.slice p d.length cap,.func (.func 45) #[] #[]] w fun e w'=>e=.returned (.tuple #[])∧w.grownBy w' (some g)∧∃ d':List I2,d'.Perm d∧d'.Pairwise (fun x y=>¬ lt2 y x)∧HoldsK encF 3 w' g 0 d'.toArray:=by
 by_cases h0:0 < d.length
 ·obtain rfl:=hp h0
  have hblk:g < w.heap.size:=by
   have h1:=h 0 (by rw[size_flatK];simp;omega)
   exact zM w _ h1.1
  have hs:=AnyQ.slices_SortFunc Tryz.sortFlag 3 Tryz.isAgg48 Tryz.sizeOf48 encF (fun _=>rfl) (fun x v hv=>by simp[encF] at hv;rcases hv with rfl|rfl|rfl<;>rfl) cf2 swo2 45 #[] g 0 cap d.toArray w enters_lessFlag (fun _ _ _ _ x y=>lessFlag x y _) h hblk (by simp;omega)
  rw[show d.toArray.size=d.length by simp] at hs
  change Calls Tryz.prog 44 _ _ _ at hs
  refine hs.mono ?_
  rintro e w' ⟨rfl,d',n,os,hperm,hsort,rfl⟩
  refine⟨rfl,?_,d'.toList,?_,?_,?_⟩
  ·refine⟨rfl,rfl,rfl,size_sortWorldK_c _ _ _ _ _ _ _ _,fun k hk hne=>?_⟩
   have hne':g≠k:=fun e=>hne (by rw[e])
   show (w.heap.modify g _ ++ os)[k]?=w.heap[k]?
   rw[Array.getElem?_append_left (by simpa using hk),Array.getElem?_modify,if_neg hne']
  ·have h1:=hperm.1
   have h2:=hperm.2.2
   have h3:d'.extract 0 d.length=d':=by rw[show d.length=d'.size by simp[h1]];simp
   rw[h3] at h2
   simpa using h2
  ·have h1:=hperm.1
   rw[List.pairwise_iff_getElem]
   intro i j hi hj hij
   have hi':i < d'.size:=by simpa using hi
   have hj':j < d'.size:=by simpa using hj
   have h2:=hsort i j (Nat.zero_le _) hij (by rw[h1] at hj';simpa using hj')
   rw[ltOf2_not,getElem!_pos d' j hj',getElem!_pos d' i hi'] at h2
   simpa using h2
  ·have:=holdsK_sortWorldK encF 3 w g 0 n d.toArray d' os hblk h (by simpa using hperm.1)
   simpa using this
 ·obtain rfl:d=[]:=List.eq_nil_of_length_eq_zero (by omega)
  refine (AnyF.slices_SortFunc_none Tryz.sortFlag p cap _ w).mono ?_
  rintro e w' ⟨rfl,rfl⟩
  exact⟨rfl,World.grownBy.refl _ _,[],List.Perm.refl _,List.Pairwise.nil,h⟩
open Go.RowKit Go.Grid Go.Buddy Go.Sort Go.Shelf
noncomputable def chkL (k:Ctl) (L:List BR):List I2:=if chkE k L=0 then sort2 (outC k.fr.toNat L k.bd 12) else []
structure FlAt (w:World) (v:Value) (F:List I2):Prop where
 ex:∃ b o p cap,v=.slice p F.length cap∧F.length≤cap∧(0 < F.length→p=some ⟨b,o,none⟩)∧∀ k (h:k < F.length),w.cell? ⟨b,o+k*3,none⟩=some (.int .i64 F[k].1)∧w.cell? ⟨b,o+k*3+1,none⟩=some (.int .i64 F[k].2)∧w.cell? ⟨b,o+k*3+2,none⟩=some (.int .i64 6)
theorem FlAt.nil (w:World):FlAt w (.slice none 0 0) []:=⟨0,0,none,0,rfl,Nat.le_refl _,fun h=>absurd h (by simp),fun k h=>absurd h (by simp)⟩
theorem FlAt.below {w w':World} {v:Value} {F:List I2} (h:FlAt w v F) (hb:Below w.heap.size w w'):FlAt w' v F:=by
 obtain⟨b,o,p,cap,e,hc,hp,hs⟩:=h.ex
 exact⟨b,o,p,cap,e,hc,hp,fun k hk=>⟨zP hb (hs k hk).1,zP hb (hs k hk).2.1,zP hb (hs k hk).2.2⟩⟩
theorem holdsF_get {w:World} {b:Nat} {d:List I2} (h:HoldsK encF 3 w b 0 d.toArray) (k:Nat) (hk:k < d.length):w.cell? ⟨b,k*3,none⟩=some (.int .i64 d[k].1)∧w.cell? ⟨b,k*3+1,none⟩=some (.int .i64 d[k].2)∧w.cell? ⟨b,k*3+2,none⟩=some (.int .i64 6):=by
 have hk':k < d.toArray.size:=by simpa using hk
 have e:∀ j,j / 3=k→d.toArray[j / 3]! = d[k]:=fun j hj=>by rw[hj,getElem!_pos d.toArray k hk'];simp
 have h0:=(h (k*3) (by rw[size_flatK];omega)).1
 have h1:=(h (k*3+1) (by rw[size_flatK];omega)).1
 have h2:=(h (k*3+2) (by rw[size_flatK];omega)).1
 rw[get_flatK _ _ _ _ (by omega),e _ (by omega),show k*3 % 3=0 by omega,Nat.zero_add] at h0
 rw[get_flatK _ _ _ _ (by omega),e _ (by omega),show (k*3+1) % 3=1 by omega,Nat.zero_add] at h1
 rw[get_flatK _ _ _ _ (by omega),e _ (by omega),show (k*3+2) % 3=2 by omega,Nat.zero_add] at h2
 exact⟨h0,h1,h2⟩
theorem FlAt.of_holds {w:World} {b cap:Nat} {p:Option Addr} {d:List I2} (h:HoldsK encF 3 w b 0 d.toArray) (hp:0 < d.length→p=some ⟨b,0,none⟩) (hc:d.length≤cap):FlAt w (.slice p d.length cap) d:=
 ⟨b,0,p,cap,rfl,hc,hp,fun k hk=>by simpa using holdsF_get h k hk⟩
theorem FlOwn.holds {w:World} {base:Nat} {v:Value} {F:List I2} (h:FlOwn w base v F):∃ p cap g,v=.slice p F.length cap∧F.length≤cap∧base≤g∧(0 < F.length→p=some ⟨g,0,none⟩)∧HoldsK encF 3 w g 0 F.toArray:=by
 by_cases h0:0 < F.length
 ·obtain⟨g,cap,cur,rfl,hc,hg,_⟩:=own_some h h0
  exact⟨_,cap,g,rfl,hc,hg,fun _=>rfl,own_holds (k:=3) (by decide) (fun _=>rfl) h rfl⟩
 ·obtain⟨p,cap,rfl,hc⟩:=own_slice h
  obtain rfl:F=[]:=List.eq_nil_of_length_eq_zero (by omega)
  refine⟨p,cap,base,rfl,hc,Nat.le_refl _,fun h=>absurd h (by simp),fun j hj=>?_⟩
  rw[size_flatK] at hj
  simp at hj
theorem FlOwn.at {w:World} {base:Nat} {v:Value} {F:List I2} (h:FlOwn w base v F):FlAt w v F:=by
 obtain⟨p,cap,g,rfl,hc,_,hp,hH⟩:=h.holds
 exact FlAt.of_holds hH hp hc
theorem outC_zero {n:Nat} {L:List BR} {f:Nat→Int} (h:zB f=true):outC n L f 12=[]:=by
 unfold outC
 rw[List.flatMap_eq_nil_iff]
 intro c hc
 unfold zB at h
 have:=List.all_eq_true.1 h c hc
 rw[beq_iff_eq] at this
 unfold flC
 rw[if_pos this];rfl
theorem filt_lt {f:Nat→Bool} {m i:Nat} (hi:i < m) (h:f i=false):((List.range m).filter f).length < m:=by
 have h1:((List.range m).filter f).length < (List.range m).length:=by
  rw[List.length_filter_lt_length_iff_exists]
  exact⟨i,List.mem_range.2 hi,by rw[h];simp⟩
 rwa[List.length_range] at h1
theorem aroP_self (n:Nat) (L:List BR) (c:Int) (i:Nat):aroP n L c i i=false:=by unfold aroP cloN;simp
theorem aroL_few {n:Nat} {L:List BR} {c:Int} {i:Nat} (hL:L.length≤3) (hi:i < L.length):(aroL n L c i).length < 3:=by
 unfold aroL
 split
 ·exact Nat.lt_of_lt_of_le (filt_lt hi (aroP_self n L c i)) hL
 ·decide
theorem rej_few {n:Nat} {L:List BR} {lim:Int} {c:Nat} (hL:L.length≤3) (i:Nat):rej (panB n L lim c) i=false:=by
 unfold rej
 cases hp:(panB n L lim c).pr i with
 |false=>rfl
 |true=>
  rw[left_few (P:=panB n L lim c) (fun j hj=>aroL_few hL hj) hp]
  rfl
theorem outC_few {n:Nat} {L:List BR} {f:Nat→Int} (hL:L.length≤3):outC n L f 12=[]:=by
 unfold outC
 rw[List.flatMap_eq_nil_iff]
 intro c hc
 unfold flC
 split
 ·rfl
 ·rw[List.map_eq_nil_iff,List.filter_eq_nil_iff]
  intro i hi h
  rw[rej_few hL] at h
  cases h
theorem sort2_nil:sort2 []=[]:=by unfold sort2;exact List.mergeSort_nil
open Go.RowKit Go.Grid Go.Buddy
theorem AroAt.of_next {w:World} {N M:Nat} {ls:Nat→List Int} (h:NextAt w N M (N+1) ls):AroAt w N M ls:=by
 obtain⟨vs,h1,h2,_⟩:=h
 exact⟨vs,h1,h2⟩
noncomputable def cloL (n:Nat) (L:List BR) (i:Nat):List Nat:=(List.range L.length).filter (cloN n L i)
theorem cloR_eq (n:Nat) (L:List BR) (i:Nat):cloR n L i=natI (cloL n L i):=rfl
theorem cloL_lt {n:Nat} {L:List BR} {i j:Nat} (h:j∈cloL n L i):j < L.length:=List.mem_range.1 (List.mem_filter.1 h).1
theorem aroL_clo (n:Nat) (L:List BR) (c:Int) (i:Nat):aroL n L c i=if fB (bat L i).2 c then (cloL n L i).filter (fun j=>fB (bat L j).2 c) else []:=by
 unfold aroL cloL
 rw[List.filter_filter]
 rfl
theorem filtT_succ {f:Nat→Bool} {D:List Nat} {k:Nat} (h:k < D.length):(D.take (k+1)).filter f=(D.take k).filter f ++ if f D[k]=true then [D[k]] else []:=by
 rw[List.take_succ_eq_append_getElem h,List.filter_append]
 by_cases hf:f D[k]=true
 ·rw[if_pos hf];simp[hf]
 ·rw[if_neg hf];simp[hf]
theorem filtT_le (f:Nat→Bool) (D:List Nat) (k:Nat):((D.take k).filter f).length≤D.length:=by
 have:=List.length_filter_le f (D.take k)
 have h2:(D.take k).length≤D.length:=by rw[List.length_take];exact Nat.min_le_right _ _
 omega
theorem rneighB_any (n C:Nat) (p:Option Addr) (cap m:Nat) (L:List BR) (hl:L.length=m) (hm:m≤100000) (i:Nat) (hi:i < m) (c:Int) (w:World) (hV:VecB w p L) (hA:AroAt w C m (cloR n L)) :
  Calls Tryz.prog 55 #[.slice p m cap,.slice (some ⟨C,0,none⟩) m m,.int .i64 (i:Int),.int .i64 c] w fun e w'=>∃ v,e=.returned v∧QRow w' w.heap.size v (aroL n L c i)∧Below w.heap.size w w':=by
 obtain⟨bb,o,rfl,hbl,hrp⟩:=hV.cell (by omega)
 have hil:i < L.length:=by omega
 have HM:=zN hl
 have hri:=hrp i hil
 have hok:=hV.r _ (List.getElem_mem hil)
 rw[←bat_eq hil] at hri hok
 have HV:=zN hV
 have HRP:=zN hrp
 obtain⟨pc,cc,hc1,hc2⟩:=hA.rdc hi
 rw[cloR_eq] at hc1 hc2
 obtain⟨D,hD⟩:∃ D,D=cloL n L i:=⟨_,rfl⟩
 have hDl:∀ j∈D,j < m:=fun j hj=>by rw[hD] at hj;rw[←hl];exact cloL_lt hj
 have hDn:D.length≤m:=by rw[hD,←hl];exact filt_le _ _
 have HAL:Hid (aroL n L c i=if fB (bat L i).2 c then D.filter (fun j=>fB (bat L j).2 c) else []):=zN (by rw[hD];exact aroL_clo n L c i)
 rw[←hD] at hc1 hc2
 rw[natI_len] at hc1 hc2
 have HDL:=zN hDl
 obtain⟨d,hd⟩:∃ d,d=D.length:=⟨_,rfl⟩
 rw[←hd] at hc1 hc2 hDn
 have HD:=zN hd.symm
 have HC2:=zN hc2
 have HC1:=zN hc1
 obtain⟨ri,hrie⟩:∃ ri,ri=bat L i:=⟨_,rfl⟩
 rw[←hrie] at hri hok HAL
 obtain⟨qi,ci,hrd,hRin⟩:=hok.ex
 obtain⟨ni,hni⟩:∃ ni,ni=ri.2.length:=⟨_,rfl⟩
 have hni9:ni≤1000000000:=by rw[hni];exact hok.len
 obtain⟨x0,x1,x2,x3,x4,x5,x6,x7,_⟩:=hri
 rw[hrd,←hni] at x7
 have HC:=zN (rfind04_any qi ri.2 ci ni c w hni.symm hRin hni9)
 have hi0:(0:Int)≤(i:Int):=by omega
 have hi1:(i:Int) < (m:Int):=by omega
 obtain⟨fi,hfi⟩:∃ fi,fi=fB ri.2 c:=⟨_,rfl⟩
 rw[←hfi] at HC HAL
 clear hV hA hrp hl hrie hok hrd hRin hni hfi hD hd hDl hc2 x0 x1 x2 x3 x4 x5 x6
 go_enter Tryz.func55,Tryz.ntmps55
 go_wp2_with fail
 refine HC.out.mono ?_
 rintro e w1 ⟨rfl,hw1⟩
 rw[←hw1]
 clear HC x7 hw1
 cases fi with
 |false=>
  go_wp2
  go_ret
  exact⟨_,rfl,by rw[HAL.out];exact QRow.nil _ _,zBr _ _⟩
 |true=>
  have HA2:Hid (aroL n L c i=D.filter (fun j=>fB (bat L j).2 c)):=zN (by rw[HAL.out];rfl)
  clear HAL
  go_wp2
  go_loopw [33,9] (fun v33 v9 wr=>∃ k:Nat,k≤d∧v33=.int .i64 (k:Int)∧QRow wr w.heap.size v9 ((D.take k).filter (fun j=>fB (bat L j).2 c))∧Below w.heap.size w wr) (fun v33 _ _=>d-(intOf v33).toNat)
  case atStart=>exact⟨0,by omega,rfl,QRow.nil _ _,zBr _ _⟩
  case round=>
   obtain⟨k,hkn,rfl,hrow,hb⟩:=hrel
   by_cases hk:k < d
   ·have hdk:decide ((k:Int) < (d:Int))=true:=zDt (by omega)
    have hk0:(0:Int)≤(k:Int):=by omega
    have hk1:(k:Int) < (d:Int):=by omega
    have hkD:k < D.length:=by rw[HD.out];exact hk
    have hRd:VecAt w pc (natI D):=by
     obtain⟨p2,c2,e2,_,h2⟩:=HC2.out
     injection e2 with e3 e4 e5
     rw[e3];exact h2
    obtain⟨cb,co,rfl,hcbl,hcc⟩:=hRd.cell (by rw[natI_len];omega)
    have hcD:=zP hb (hcc k (by rw[natI_len];exact hkD))
    have ecD:(natI D)[k]'(by rw[natI_len];exact hkD)=((D[k]:Nat):Int):=by simp[natI]
    rw[ecD] at hcD
    have HFS:=zN (filtT_succ (f:=fun j=>fB (bat L j).2 c) hkD)
    have hjm:=HDL.out _ (List.getElem_mem hkD)
    obtain⟨j,hj⟩:∃ j,j=D[k]:=⟨_,rfl⟩
    rw[←hj] at hcD HFS hjm
    have hj0:(0:Int)≤(j:Int):=by omega
    have hj1:(j:Int) < (m:Int):=by omega
    have hjl:j < L.length:=by rw[HM.out];exact hjm
    have hVw:=HV.out.below hb
    have hrk:=(HRP.out j hjl).of_block (hb.block _ hbl)
    have hok:=hVw.r _ (List.getElem_mem hjl)
    rw[←bat_eq hjl] at hrk hok
    obtain⟨rk,hrke⟩:∃ rk,rk=bat L j:=⟨_,rfl⟩
    rw[←hrke] at hrk hok HFS
    obtain⟨qk,ck,hrd,hRk⟩:=hok.ex
    obtain⟨nk,hnk⟩:∃ nk,nk=rk.2.length:=⟨_,rfl⟩
    have hnk9:nk≤1000000000:=by rw[hnk];exact hok.len
    obtain⟨y0,y1,y2,y3,y4,y5,y6,y7,_⟩:=hrk
    rw[hrd,←hnk] at y7
    have HC:=zN (rfind04_any qk rk.2 ck nk c wr hnk.symm hRk hnk9)
    have HBW:=zN hb
    have HROW:=zN hrow
    obtain⟨fk,hfk⟩:∃ fk,fk=fB rk.2 c:=⟨_,rfl⟩
    rw[←hfk] at HC HFS
    clear hb hVw hok hrke hrd hRk hnk hfk hrow hj ecD hcc hRd y0 y1 y2 y3 y4 y5 y6 hc1
    go_wp2_with fail
    refine HC.out.mono ?_
    rintro e w2 ⟨rfl,hw2⟩
    rw[←hw2]
    clear HC y7 hcD hw2
    cases fk with
    |false=>
     have HF:Hid ((D.take (k+1)).filter (fun j=>fB (bat L j).2 c)=(D.take k).filter (fun j=>fB (bat L j).2 c)):=zN (by rw[HFS.out,if_neg (by simp),List.append_nil])
     go_wp2
     go_roundw
     case rel=>exact⟨k+1,by omega,by go_num,by rw[HF.out];exact HROW.out,HBW.out⟩
     case measure=>simp[intOf]<;>omega
    |true=>
     have HF:Hid ((D.take (k+1)).filter (fun j=>fB (bat L j).2 c)=(D.take k).filter (fun j=>fB (bat L j).2 c) ++ [j]):=zN (by rw[HFS.out,if_pos rfl])
     have hrow3:=HROW.out
     have hTl:((D.take k).filter (fun j=>fB (bat L j).2 c)).length≤100000:=by
      have h1:=filtT_le (fun j=>fB (bat L j).2 c) D k
      have h2:=HD.out
      omega
     obtain⟨T,hT⟩:∃ T,T=(D.take k).filter (fun j=>fB (bat L j).2 c):=⟨_,rfl⟩
     rw[←hT] at hrow3 hTl HF
     obtain⟨p11,c11,rfl,hc11⟩:=own_slice hrow3
     have hs3:=HBW.out.size
     clear hT
     go_wp2_with (refine RX.wpl_app (by rfl) elIn _ _ (by rfl) w.heap.size _ _ _ (World.ownsRow.alloc hrow3 _) (by rfl) wr.heap.size _ 1 (by rfl) (heap_alloc_new _ _) (by rfl) (by simp[Value.oneCell']) (by omega) (by omega) (by simp;omega) ?_;intro vq w4 hown4 hb4 hg4 hat4;clear hat4)
     have HB4:=zN (HBW.out.trans (((zBr _ _).alloc (by omega) _).trans hb4))
     go_wp2
     go_roundw
     case rel=>exact⟨k+1,by omega,by go_num,by rw[HF.out];exact QRow.snoc hown4,HB4.out⟩
     case measure=>simp[intOf]<;>omega
   ·have hdk:decide ((k:Int) < (d:Int))=false:=zDf (by omega)
    obtain rfl:k=d:=by omega
    have hTk:D.take k=D:=List.take_of_length_le (by have:=HD.out;omega)
    rw[hTk,←HA2.out] at hrow
    have HROW:=zN hrow
    have HBW:=zN hb
    clear hrow hb hTk hc1
    go_wp2
    go_ret
    exact⟨_,rfl,HROW.out,HBW.out⟩
def neiE (n:Int) (L:List BR) (r:Int):Int:=if 1≤n∧n≤8 then (if exE L=0 then (if r < 0∨(L.length:Int)≤r then 1 else 0) else exE L) else 1
noncomputable def neiL (n:Int) (L:List BR) (r c:Int):List Nat:=if neiE n L r=0 then aroL n.toNat L c r.toNat else []
theorem neiE_n {n:Int} {L:List BR} {r:Int} (h:¬ (1≤n∧n≤8)):neiE n L r=1:=by unfold neiE;rw[if_neg h]
theorem neiE_x {n:Int} {L:List BR} {r:Int} (h:1≤n∧n≤8) (h2:exE L≠0):neiE n L r=exE L:=by unfold neiE;rw[if_pos h,if_neg h2]
theorem neiE_r {n:Int} {L:List BR} {r:Int} (h:1≤n∧n≤8) (h2:exE L=0) (h3:r < 0∨(L.length:Int)≤r):neiE n L r=1:=by unfold neiE;rw[if_pos h,if_pos h2,if_pos h3]
theorem neiE_0 {n:Int} {L:List BR} {r:Int} (h:1≤n∧n≤8) (h2:exE L=0) (h3:¬ (r < 0∨(L.length:Int)≤r)):neiE n L r=0:=by unfold neiE;rw[if_pos h,if_pos h2,if_neg h3]
theorem neiL_no {n:Int} {L:List BR} {r c:Int} (h:neiE n L r≠0):neiL n L r c=[]:=by unfold neiL;rw[if_neg h]
def NeiOut (w w':World) (e:Ending) (n:Int) (L:List BR) (r c:Int):Prop:=∃ v,e=.returned (.tuple #[v,.int .i64 (neiE n L r)])∧QRow w' w.heap.size v (neiL n L r c)∧Below w.heap.size w w'
theorem NeiOut.err {w w':World} {n r c x:Int} {L:List BR} (h:neiE n L r=x) (hx:x≠0) (hb:Below w.heap.size w w'):NeiOut w w' (.returned (.tuple #[.slice none 0 0,.int .i64 x])) n L r c:=
 ⟨_,by rw[h],by rw[neiL_no (by rw[h];exact hx)];exact QRow.nil _ _,hb⟩
theorem NeiOut.ok {w w':World} {c:Int} {nn i:Nat} {L:List BR} {v:Value} {base:Nat} (h:neiE (nn:Int) L (i:Int)=0) (hv:QRow w' base v (aroL nn L c i)) (hbs:w.heap.size≤base) (hb:Below w.heap.size w w'):NeiOut w w' (.returned (.tuple #[v,.int .i64 0])) (nn:Int) L (i:Int) c:=
 ⟨_,by rw[h],by unfold neiL;rw[if_pos h,Int.toNat_natCast,Int.toNat_natCast];exact own_mono hv hbs,hb⟩
theorem bnei_any (p:Option Addr) (cap m:Nat) (L:List BR) (hl:L.length=m) (hm:m≤100000) (n r c:Int) (w:World) (hT:HasTab w) (hB:HasBnd w) (hV:VecB w p L) :
  Calls Tryz.prog 26 #[.slice p m cap,.int .i64 n,.int .i64 r,.int .i64 c] w fun e w'=>NeiOut w w' e n L r c:=by
 have HT:=zN hT
 have HB:=zN hB
 have HV:=zN hV
 have HL:=zN hl
 clear hT hB hV hl
 go_enter Tryz.func26,Tryz.ntmps26
 go_wp2_with fail
 refine (freqB_any _ _).mono ?_
 rintro e w1 ⟨rfl,hb1⟩
 have HB1:=zN hb1
 clear hb1
 by_cases hfr:1≤n∧n≤8
 rotate_left
 ·have hdf:decide (1≤n∧n≤8)=false:=zDf hfr
  have HE:=zN (neiE_n (L:=L) (r:=r) hfr)
  rw[hdf]
  clear hdf hfr
  go_wp2
  go_ret2
  exact NeiOut.err HE.out (by decide) HB1.out
 ·have hdf:decide (1≤n∧n≤8)=true:=zDt hfr
  rw[hdf]
  have HFR:=zN hfr
  clear hdf hfr
  obtain⟨er,her⟩:∃ er,er=exE L:=⟨_,rfl⟩
  have HC:=examine_any p cap m L HL.out (by omega) w1 (HB.out.below HB1.out) (HV.out.below HB1.out)
  rw[←her] at HC
  have HC:=zN HC
  have HER:=zN her
  clear her
  go_wp2_with fail
  refine HC.out.mono ?_
  rintro e w2 ⟨rfl,hb2⟩
  have HB2:=zN (HB1.out.trans (hb2.mono HB1.out.size))
  clear hb2 HC
  by_cases h0:er=0
  ·subst h0
   by_cases hr0:r < 0
   ·have hd0:decide (r < 0)=true:=zDt hr0
    have HE:=zN (neiE_r (r:=r) HFR.out HER.out.symm (.inl hr0))
    clear hr0
    go_wp2
    go_ret2
    exact NeiOut.err HE.out (by decide) HB2.out
   ·have hd0:decide (r < 0)=false:=zDf hr0
    obtain⟨i,rfl⟩:∃ i:Nat,r=(i:Int):=⟨r.toNat,by omega⟩
    clear hr0
    by_cases hrl:m≤i
    ·have hd1:decide ((m:Int)≤(i:Int))=true:=zDt (by omega)
     have HE:=zN (neiE_r (r:=(i:Int)) HFR.out HER.out.symm (.inr (by rw[HL.out];omega)))
     go_wp2
     go_ret2
     exact NeiOut.err HE.out (by decide) HB2.out
    ·have hd1:decide ((m:Int)≤(i:Int))=false:=zDf (by omega)
     have hi:i < m:=by omega
     obtain⟨h1,h8⟩:=HFR.out
     obtain⟨nn,rfl⟩:∃ nn:Nat,n=(nn:Int):=⟨n.toNat,by omega⟩
     replace h1:1≤nn:=by omega
     replace h8:nn≤8:=by omega
     have HE:=zN (neiE_0 (L:=L) (r:=(i:Int)) HFR.out HER.out.symm (by rw[HL.out];omega))
     clear HFR hrl
     go_wp2_with fail
     refine (nodes_any nn h1 h8 p cap m L HL.out hm w2 (HT.out.below HB2.out) (HV.out.below HB2.out) (exE_ok HER.out.symm).1).mono ?_
     rintro e w3 ⟨A,Bb,g,rfl,hN,hb3⟩
     have HB3:=zN (HB2.out.trans (hb3.mono HB2.out.size))
     have HC:=zN (around_any nn h1 h8 A Bb g p cap m L HL.out hm i hi c w3 (HV.out.below HB3.out) hN)
     clear hb3 hN
     go_wp2_with fail
     refine HC.out.mono ?_
     rintro e w4 ⟨v,rfl,hv,hb4⟩
     obtain⟨pv0,cv0,rfl,_⟩:=own_slice hv
     have HB4:=zN (HB3.out.trans (hb4.mono HB3.out.size))
     have HVV:=zN hv
     have hs3:=HB3.out.size
     clear hb4 hv HC
     go_wp2
     go_ret2
     exact NeiOut.ok HE.out HVV.out hs3 HB4.out
  ·have hne:(er != 0)=true:=by rw[bne_iff_ne];exact h0
   have HE:=zN (neiE_x (r:=r) HFR.out (by rw[←HER.out];exact h0))
   rw[←HER.out] at HE
   go_wp2
   go_ret2
   exact NeiOut.err HE.out h0 HB2.out
theorem rnei_any (p:Option Addr) (cap m:Nat) (L:List BR) (hl:L.length=m) (hm:m≤100000) (n r c:Int) (w:World) (hV:VecB w p L) :
  Calls Tryz.prog 27 #[.slice p m cap,.int .i64 n,.int .i64 r,.int .i64 c] w fun e w'=>NeiOut w w' e n L r c:=by
 have HV:=zN hV
 have HL:=zN hl
 clear hV hl
 by_cases hn1:n < 1
 ·have hdn:decide (n < 1)=true:=zDt hn1
  have HE:=zN (neiE_n (n:=n) (L:=L) (r:=r) (by omega))
  clear hn1
  go_enter Tryz.func27,Tryz.ntmps27
  go_wp2
  go_ret2
  exact NeiOut.err HE.out (by decide) (zBr _ _)
 have hdn:decide (n < 1)=false:=zDf hn1
 by_cases hn8:8 < n
 ·have hdm:decide (8 < n)=true:=zDt hn8
  have HE:=zN (neiE_n (n:=n) (L:=L) (r:=r) (by omega))
  clear hn1 hn8
  go_enter Tryz.func27,Tryz.ntmps27
  go_wp2
  go_ret2
  exact NeiOut.err HE.out (by decide) (zBr _ _)
 have hdm:decide (8 < n)=false:=zDf hn8
 have HFR:Hid (1≤n∧n≤8):=zN (by omega)
 clear hn1 hn8
 obtain⟨er,her⟩:∃ er,er=exE L:=⟨_,rfl⟩
 have HC:=rpossible_any p cap m L HL.out (by omega) w HV.out
 rw[←her] at HC
 have HC:=zN HC
 have HER:=zN her
 clear her
 go_enter Tryz.func27,Tryz.ntmps27
 go_wp2_with fail
 refine HC.out.mono ?_
 rintro e w2 ⟨rfl,hb2⟩
 have HB2:=zN hb2
 clear hb2 HC
 by_cases h0:er=0
 ·subst h0
  by_cases hr0:r < 0
  ·have hd0:decide (r < 0)=true:=zDt hr0
   have HE:=zN (neiE_r (r:=r) HFR.out HER.out.symm (.inl hr0))
   clear hr0
   go_wp2
   go_ret2
   exact NeiOut.err HE.out (by decide) HB2.out
  ·have hd0:decide (r < 0)=false:=zDf hr0
   obtain⟨i,rfl⟩:∃ i:Nat,r=(i:Int):=⟨r.toNat,by omega⟩
   clear hr0
   by_cases hrl:m≤i
   ·have hd1:decide ((m:Int)≤(i:Int))=true:=zDt (by omega)
    have HE:=zN (neiE_r (r:=(i:Int)) HFR.out HER.out.symm (.inr (by rw[HL.out];omega)))
    go_wp2
    go_ret2
    exact NeiOut.err HE.out (by decide) HB2.out
   ·have hd1:decide ((m:Int)≤(i:Int))=false:=zDf (by omega)
    have hi:i < m:=by omega
    obtain⟨h1,h8⟩:=HFR.out
    obtain⟨nn,rfl⟩:∃ nn:Nat,n=(nn:Int):=⟨n.toNat,by omega⟩
    replace h1:1≤nn:=by omega
    replace h8:nn≤8:=by omega
    have HE:=zN (neiE_0 (L:=L) (r:=(i:Int)) HFR.out HER.out.symm (by rw[HL.out];omega))
    clear HFR hrl
    go_wp2_with fail
    refine (rclose_any nn h1 h8 p cap m L HL.out hm w2 (HV.out.below HB2.out) (exE_ok HER.out.symm).1).mono ?_
    rintro e w3 ⟨C,rfl,hN,hC,hb3⟩
    have HB3:=zN (HB2.out.trans (hb3.mono HB2.out.size))
    have HC:=zN (rneighB_any nn C p cap m L HL.out hm i hi c w3 (HV.out.below HB3.out) (AroAt.of_next hN))
    clear hb3 hN hC
    go_wp2_with fail
    refine HC.out.mono ?_
    rintro e w4 ⟨v,rfl,hv,hb4⟩
    obtain⟨pv0,cv0,rfl,_⟩:=own_slice hv
    have HB4:=zN (HB3.out.trans (hb4.mono HB3.out.size))
    have HVV:=zN hv
    have hs3:=HB3.out.size
    clear hb4 hv HC
    go_wp2
    go_ret2
    exact NeiOut.ok HE.out HVV.out hs3 HB4.out
 ·have hne:(er != 0)=true:=by rw[bne_iff_ne];exact h0
  have HE:=zN (neiE_x (r:=r) HFR.out (by rw[←HER.out];exact h0))
  rw[←HER.out] at HE
  go_wp2
  go_ret2
  exact NeiOut.err HE.out h0 HB2.out
def agrB (L:List BR) (c lim:Int) (i k:Nat):Bool:=decide (max (fV (bat L i).2 c-fV (bat L k).2 c) (fV (bat L k).2 c-fV (bat L i).2 c)≤lim)
def supB (L:List BR) (D:List Nat) (S:Nat→Bool) (i:Nat) (c lim:Int):Bool:=decide (D.length < 3) || decide (2≤(D.filter (fun k=>S k && agrB L c lim i k)).length)
theorem supB_stands (n:Nat) (L:List BR) (S:Nat→Bool) (i c:Nat) (lim:Int):supB L (aroL n L (c:Int) i) S i (c:Int) lim=Go.Buddy.stands (panB n L lim c) S i:=rfl
theorem rsupp_any (p:Option Addr) (cap m:Nat) (L:List BR) (hl:L.length=m) (hm:m≤100000) (hva:∀ x∈L,valE x.2=0) (D:List Nat) (hD:∀ k∈D,k < m) (hDn:D.length≤100000) (vn:Value) (LB lc:Nat) (S:Nat→Bool) (i:Nat) (hi:i < m) (c lim:Int) (w:World)
  (hV:VecB w p L) (hR:RdI w vn (natI D)) (hL:∀ j,j < m→w.cell? ⟨LB,j,none⟩=some (.bool (S j))) :
  Calls Tryz.prog 15 #[.slice p m cap,vn,.slice (some ⟨LB,0,none⟩) m lc,.int .i64 (i:Int),.int .i64 c,.int .i64 lim] w fun e w'=>e=.returned (.bool (supB L D S i c lim))∧Below w.heap.size w w':=by
 obtain⟨pn,cn,rfl,hcn,hVn⟩:=hR
 rw[natI_len] at hcn ⊢
 obtain⟨bb,o,rfl,hbl,hrp⟩:=hV.cell (by omega)
 have hil:i < L.length:=by omega
 have HM:=zN hl
 have HV:=zN hV
 have HRP:=zN hrp
 have HVA:=zN hva
 have HVN:=zN hVn
 have HBR:=zN hL
 have HCL:=zN hD
 have HST:Hid (supB L D S i c lim=(decide (D.length < 3) || decide (2≤(D.filter (fun k=>S k && agrB L c lim i k)).length))):=zN rfl
 have hi0:(0:Int)≤(i:Int):=by omega
 have hi1:(i:Int) < (m:Int):=by omega
 obtain⟨dl,hdl⟩:∃ dl,dl=D.length:=⟨_,rfl⟩
 rw[←hdl] at hDn ⊢
 have HDL:=zN hdl.symm
 have hri:=hrp i hil
 have hok:=hV.r _ (List.getElem_mem hil)
 rw[←bat_eq hil] at hri hok
 obtain⟨ri,hrie⟩:∃ ri,ri=bat L i:=⟨_,rfl⟩
 rw[←hrie] at hri hok
 have hvi:valE ri.2=0:=by rw[hrie,bat_eq hil];exact hva _ (List.getElem_mem hil)
 have hbi:=fV_bd hvi c
 have HA:Hid (∀ k,agrB L c lim i k=decide (max (fV ri.2 c-fV (bat L k).2 c) (fV (bat L k).2 c-fV ri.2 c)≤lim)):=zN (fun k=>by rw[hrie];rfl)
 obtain⟨qi,ci,hrd,hRin⟩:=hok.ex
 obtain⟨ni,hni⟩:∃ ni,ni=ri.2.length:=⟨_,rfl⟩
 have hni9:ni≤1000000000:=by rw[hni];exact hok.len
 obtain⟨x0,x1,x2,x3,x4,x5,x6,x7,_⟩:=hri
 rw[hrd,←hni] at x7
 have HC:=zN (rfind04_any qi ri.2 ci ni c w hni.symm hRin hni9)
 obtain⟨a,ha⟩:∃ a,a=fV ri.2 c:=⟨_,rfl⟩
 rw[←ha] at HA HC hbi
 obtain⟨fi,hfi⟩:∃ fi,fi=fB ri.2 c:=⟨_,rfl⟩
 rw[←hfi] at HC
 clear hV hVn hrp hl hrie hok hrd hRin hni hfi hD hdl hL hva hvi ha hcn x0 x1 x2 x3 x4 x5 x6
 by_cases h3:dl < 3
 ·have hd3:decide ((dl:Int) < 3)=true:=zDt (by omega)
  have HR:Hid (supB L D S i c lim=true):=zN (by rw[HST.out,HDL.out,zDt h3];rfl)
  clear x7
  go_enter Tryz.func15,Tryz.ntmps15
  go_wp2
  go_ret
  exact⟨by rw[HR.out];rfl,zBr _ _⟩
 ·have hd3:decide ((dl:Int) < 3)=false:=zDf (by omega)
  have HR:Hid (supB L D S i c lim=decide (2≤(D.filter (fun k=>S k && agrB L c lim i k)).length)):=zN (by rw[HST.out,HDL.out,zDf h3];rfl)
  clear HST
  go_enter Tryz.func15,Tryz.ntmps15
  go_wp2_with fail
  refine HC.out.mono ?_
  rintro e w1 ⟨rfl,hw1⟩
  have HB0:Hid (Below w.heap.size w w1):=zN (by rw[←hw1];exact zBr _ _)
  clear HC x7 hw1
  go_wp2
  go_loopw [35,15] (fun v35 v15 wr=>∃ j q:Nat,j≤dl∧q≤j∧v35=.int .i64 (j:Int)∧v15=.int .i64 (q:Int)∧Hid (((D.take j).filter (fun k=>S k && agrB L c lim i k)).length=q)∧Below w.heap.size w wr) (fun v35 _ _=>dl-(intOf v35).toNat)
  case atStart=>exact⟨0,0,by omega,by omega,rfl,rfl,zN rfl,HB0.out⟩
  case round=>
   obtain⟨j,q,hjd,hqj,rfl,rfl,HQ,hb⟩:=hrel
   by_cases hj:j < dl
   ·have hdj:decide ((j:Int) < (dl:Int))=true:=zDt (by omega)
    have hj0:(0:Int)≤(j:Int):=by omega
    have hj1:(j:Int) < (dl:Int):=by omega
    have hjD:j < D.length:=by rw[HDL.out];exact hj
    obtain⟨nb,no,rfl,hnbl,hnp⟩:=HVN.out.cell (by rw[natI_len];omega)
    have n1:=zP hb (hnp j (by rw[natI_len];exact hjD))
    have en:(natI D)[j]'(by rw[natI_len];exact hjD)=((D[j]:Nat):Int):=by simp[natI]
    rw[en] at n1
    have hkm:D[j] < m:=HCL.out _ (List.getElem_mem hjD)
    have HF:Hid ((D.take (j+1)).filter (fun k=>S k && agrB L c lim i k)=(D.take j).filter (fun k=>S k && agrB L c lim i k) ++ if (S D[j] && agrB L c lim i D[j])=true then [D[j]] else []):=zN (filtT_succ (f:=fun k=>S k && agrB L c lim i k) hjD)
    have HAG:=zN (HA.out D[j])
    generalize D[j]=k at *
    have hkl:k < L.length:=by rw[HM.out];exact hkm
    have hk0:(0:Int)≤(k:Int):=by omega
    have hk1:(k:Int) < (m:Int):=by omega
    have hVw:=HV.out.below hb
    have hrk:=(HRP.out k hkl).of_block (hb.block _ hbl)
    have hok:=hVw.r _ (List.getElem_mem hkl)
    rw[←bat_eq hkl] at hrk hok
    obtain⟨rk,hrke⟩:∃ rk,rk=bat L k:=⟨_,rfl⟩
    rw[←hrke] at hrk hok HAG
    have hvk:valE rk.2=0:=by rw[hrke,bat_eq hkl];exact HVA.out _ (List.getElem_mem hkl)
    have hbk:=fV_bd hvk c
    obtain⟨qk,ck,hrd,hRk⟩:=hok.ex
    obtain⟨nk,hnk⟩:∃ nk,nk=rk.2.length:=⟨_,rfl⟩
    have hnk9:nk≤1000000000:=by rw[hnk];exact hok.len
    obtain⟨y0,y1,y2,y3,y4,y5,y6,y7,_⟩:=hrk
    rw[hrd,←hnk] at y7
    have HC:=zN (rfind04_any qk rk.2 ck nk c wr hnk.symm hRk hnk9)
    obtain⟨b,hbe⟩:∃ b,b=fV rk.2 c:=⟨_,rfl⟩
    rw[←hbe] at HC HAG hbk
    have k2:=zP hb (HBR.out _ hkm)
    obtain⟨sk,hsk⟩:∃ sk,sk=S k:=⟨_,rfl⟩
    rw[←hsk] at k2 HF
    have HB:=zN hb
    clear hb hVw hok hrke hvk hrd hRk hnk hnp en hbe hsk hkm hjD y0 y1 y2 y3 y4 y5 y6
    go_wp2_with fail
    refine HC.out.mono ?_
    rintro e w2 ⟨rfl,hw2⟩
    obtain⟨w3,hw3⟩:∃ w3,w3=wr:=⟨_,rfl⟩
    rw[←hw2,←hw3]
    rw[←hw3] at HB k2
    clear HC y7 n1 hw2 hw3
    cases sk with
    |false=>
     have HQ2:Hid (((D.take (j+1)).filter (fun k=>S k && agrB L c lim i k)).length=q):=zN (by rw[HF.out,Bool.false_and,if_neg (by simp),List.append_nil];exact HQ.out)
     go_wp2
     go_roundw
     case rel=>exact⟨j+1,q,by omega,by omega,by go_num,rfl,HQ2,HB.out⟩
     case measure=>simp[intOf]<;>omega
    |true=>
     by_cases hag:max (a-b) (b-a)≤lim
     ·have hda:decide (max (a-b) (b-a)≤lim)=true:=zDt hag
      have HQ2:Hid (((D.take (j+1)).filter (fun k=>S k && agrB L c lim i k)).length=q+1):=zN (by rw[HF.out,HAG.out,hda,Bool.true_and,if_pos rfl,List.length_append,HQ.out];rfl)
      clear hag
      go_wp2
      go_roundw
      case rel=>exact⟨j+1,q+1,by omega,by omega,by go_num,by go_num,HQ2,HB.out⟩
      case measure=>simp[intOf]<;>omega
     ·have hda:decide (max (a-b) (b-a)≤lim)=false:=zDf hag
      have HQ2:Hid (((D.take (j+1)).filter (fun k=>S k && agrB L c lim i k)).length=q):=zN (by rw[HF.out,HAG.out,hda,Bool.true_and,if_neg (by simp),List.append_nil];exact HQ.out)
      clear hag
      go_wp2
      go_roundw
      case rel=>exact⟨j+1,q,by omega,by omega,by go_num,rfl,HQ2,HB.out⟩
      case measure=>simp[intOf]<;>omega
   ·have hdj:decide ((j:Int) < (dl:Int))=false:=zDf (by omega)
    obtain rfl:j=dl:=by omega
    have HF:Hid (supB L D S i c lim=decide (2≤q)):=zN (by
     have h:=HQ.out
     rw[List.take_of_length_le (by rw[HDL.out];exact Nat.le_refl _)] at h
     rw[HR.out,h])
    have HB:=zN hb
    clear hb
    by_cases h2:2≤q
    ·have hd2:decide ((2:Int)≤(q:Int))=true:=zDt (by omega)
     have HF2:Hid (supB L D S i c lim=true):=zN (by rw[HF.out,zDt h2])
     go_wp2
     go_ret
     exact⟨by rw[HF2.out];rfl,HB.out⟩
    ·have hd2:decide ((2:Int)≤(q:Int))=false:=zDf (by omega)
     have HF2:Hid (supB L D S i c lim=false):=zN (by rw[HF.out,zDf h2])
     go_wp2
     go_ret
     exact⟨by rw[HF2.out];rfl,HB.out⟩
def bL (m:Nat) (S:Nat→Bool):List Value:=(List.range m).map fun j=>.bool (S j)
def BOwn (w:World) (base:Nat) (v:Value) (m:Nat) (S:Nat→Bool):Prop:=w.ownsRow base 4 1 v m (bL m S)
theorem bL_len (m:Nat) (S:Nat→Bool):(bL m S).length=m:=by simp[bL]
theorem bL_get {m j:Nat} {S:Nat→Bool} (h:j < m):(bL m S)[j]?=some (.bool (S j)):=by simp[bL,h]
theorem bL_congr {m:Nat} {S T:Nat→Bool} (h:∀ j,j < m→S j=T j):bL m S=bL m T:=by
 unfold bL
 exact List.map_congr_left fun j hj=>by rw[h j (List.mem_range.1 hj)]
theorem BOwn.congr {w:World} {base m:Nat} {v:Value} {S T:Nat→Bool} (h:BOwn w base v m S) (e:∀ j,j < m→S j=T j):BOwn w base v m T:=by
 unfold BOwn at h ⊢
 rw[←bL_congr e];exact h
theorem BOwn.made (w:World) (m:Nat) (hm:m≤100000):BOwn (w.alloc (.cells (madeCells #[.bool false] m) 4)) w.heap.size (.slice (some ⟨w.heap.size,0,none⟩) m m) m (fun _=>false):=by
 refine⟨by rw[bL_len];omega,.inr ⟨w.heap.size,m,_,rfl,Nat.le_refl _,heap_alloc_new _ _,Nat.le_refl _,by unfold maxLen;omega,by rw[size_madeCells];simp,?_⟩⟩
 refine List.ext_getElem? fun j=>?_
 by_cases hj:j < m
 ·rw[bL_get hj,List.getElem?_take_of_lt (by omega)]
  simp[madeCells,hj,Nat.mod_one]
 ·rw[List.getElem?_eq_none (l:=bL m (fun _=>false)) (by rw[bL_len];omega),List.getElem?_eq_none (by rw[List.length_take];omega)]
theorem BOwn.get {w:World} {base m:Nat} {v:Value} {S:Nat→Bool} (h:BOwn w base v m S) (h0:0 < m):∃ b cap,v=.slice (some ⟨b,0,none⟩) m cap∧base≤b∧b < w.heap.size∧∀ j,j < m→w.cell? ⟨b,j,none⟩=some (.bool (S j))∧w.frozen? ⟨b,j,none⟩=false:=by
 obtain⟨b,cap,cur,rfl,hc,hb,hg⟩:=own_some h h0
 refine⟨b,cap,rfl,hb,(Array.getElem?_eq_some_iff.1 hg).1,fun j hj=>⟨?_,World.ownsRow.frozenAt h j⟩⟩
 rw[World.ownsRow.cellAt h j (by omega),bL_get hj]
theorem BOwn.at_ {w:World} {base m b cap:Nat} {S:Nat→Bool} (h:BOwn w base (.slice (some ⟨b,0,none⟩) m cap) m S) {j:Nat} (hj:j < m):w.cell? ⟨b,j,none⟩=some (.bool (S j))∧w.frozen? ⟨b,j,none⟩=false:=
 ⟨by rw[World.ownsRow.cellAt h j (by omega),bL_get hj],World.ownsRow.frozenAt h j⟩
theorem BOwn.blk {w:World} {base m b cap:Nat} {S:Nat→Bool} (h:BOwn w base (.slice (some ⟨b,0,none⟩) m cap) m S):base≤b∧b < w.heap.size:=World.ownsRow.lt h b rfl
theorem BOwn.below {w w':World} {base m:Nat} {v:Value} {S:Nat→Bool} (h:BOwn w base v m S) (hb:Below w.heap.size w w'):BOwn w' base v m S:=own_below h hb
theorem BOwn.some_ {w:World} {base m cap:Nat} {p:Option Addr} {S:Nat→Bool} (h:BOwn w base (.slice p m cap) m S) (h0:0 < m):∃ b,p=some ⟨b,0,none⟩:=by
 obtain⟨b,c2,e,_⟩:=h.get h0
 injection e with e1 e2 e3
 exact⟨b,e1⟩
theorem BOwn.news {w w':World} {base m cap:Nat} {p:Option Addr} {S:Nat→Bool} (h:BOwn w base (.slice p m cap) m S) (hb:Below w.heap.size w w'):0 < m→∃ ad,p=some ad∧∀ (j:Nat) (u:Value),(bL m S)[j]?=some u→w'.cell? (ad.add j)=some u:=fun h0=>by
 obtain⟨b,rfl⟩:=h.some_ h0
 refine⟨_,rfl,fun j u hu=>?_⟩
 have hj:j < m:=by
  have:=(List.getElem?_eq_some_iff.1 hu).1
  rwa[bL_len] at this
 rw[bL_get hj] at hu
 injection hu with hu
 subst hu
 have:=zP hb (h.at_ hj).1
 by_cases e:j=0
 ·subst e;simpa[Addr.add] using this
 ·simpa[Addr.add,e] using this
theorem BOwn.set {w:World} {base m b cap:Nat} {S:Nat→Bool} (h:BOwn w base (.slice (some ⟨b,0,none⟩) m cap) m S) (j:Nat) (hj:j < m) (x:Bool):BOwn (w.setCell ⟨b,j,none⟩ (.bool x)) base (.slice (some ⟨b,0,none⟩) m cap) m (fun k=>if k=j then x else S k):=by
 have h1:=own_set h j (.bool x) (by omega)
 have e:(bL m S).set j (.bool x)=bL m (fun k=>if k=j then x else S k):=by
  refine List.ext_getElem? fun k=>?_
  rw[List.getElem?_set]
  by_cases hk:k < m
  ·by_cases e:j=k
   ·subst e
    rw[if_pos rfl,if_pos (by rw[bL_len];exact hj),bL_get hj,if_pos rfl]
   ·rw[if_neg e,bL_get hk,bL_get hk,if_neg (Ne.symm e)]
  ·rw[List.getElem?_eq_none (l:=bL m (fun k=>if k=j then x else S k)) (by rw[bL_len];omega),if_neg (by omega),List.getElem?_eq_none (by rw[bL_len];omega)]
 unfold BOwn
 rw[←e];exact h1
theorem BOwn.gr {w w':World} {base m cb:Nat} {v:Value} {S:Nat→Bool} (h:BOwn w base v m S) (hg:w.grownBy w' (some cb)) (hc:cb < base):BOwn w' base v m S:=
 World.ownsRow.kept h hg (by
  cases ho:v.ownBlock with
  |none=>exact .inl rfl
  |some k=>exact .inr (fun e=>by injection e with e;have:=(World.ownsRow.lt h k ho).1;omega))
def celV (w:World):Value→Nat→Bool
 |.slice (some a) _ _=>celB w a.block
 |_=>fun _=>false
theorem celV_eq {w:World} {base m:Nat} {v:Value} {S:Nat→Bool} (h:BOwn w base v m S):cntB m (celV w v)=cntB m S:=by
 refine cntB_congr m (fun j hj=>?_)
 obtain⟨b,cap,rfl,_,_,hc⟩:=h.get (by omega)
 show celB w b j=S j
 unfold celB
 rw[(hc j hj).1]
structure BadAt (w:World) (BD m:Nat) (F:Nat→Nat→Bool) (c:Nat):Prop where
 ex:∃ (vs:Nat→Value) (bs:Nat→Nat),w.rowIs BD 37 12 vs∧∀ j,1≤j→j < c→vs j=.slice (some ⟨bs j,0,none⟩) m m∧BRow w (bs j) m (F j)∧BD < bs j
theorem BadAt.below {w w':World} {BD m c:Nat} {F:Nat→Nat→Bool} (h:BadAt w BD m F c) (hb:Below w.heap.size w w'):BadAt w' BD m F c:=by
 obtain⟨vs,bs,h1,h2⟩:=h.ex
 exact⟨vs,bs,h1.of_block (hb.block _ h1.lt),fun j h3 h4=>⟨(h2 j h3 h4).1,(h2 j h3 h4).2.1.below hb,(h2 j h3 h4).2.2⟩⟩
theorem BadAt.lt {w:World} {BD m c:Nat} {F:Nat→Nat→Bool} (h:BadAt w BD m F c):BD < w.heap.size:=by
 obtain⟨vs,bs,h1,h2⟩:=h.ex
 exact h1.lt
theorem BadAt.start (w:World) (m:Nat) (F:Nat→Nat→Bool):BadAt (w.alloc (.cells (madeCells #[.slice none 0 0] 12) 37)) w.heap.size m F 1:=
 ⟨_,fun _=>0,World.rowIs_made w _ 12 _,fun j h1 h2=>by omega⟩
structure BadIn (w:World) (BD m:Nat) (F:Nat→Nat→Bool) (c cb:Nat) (G:Nat→Bool):Prop where
 ex:∃ (vs:Nat→Value) (bs:Nat→Nat),w.rowIs BD 37 12 vs∧(∀ j,1≤j→j < c→vs j=.slice (some ⟨bs j,0,none⟩) m m∧BRow w (bs j) m (F j)∧BD < bs j∧bs j < cb)∧vs c=.slice (some ⟨cb,0,none⟩) m m
 row:BRow w cb m G
 gt:BD < cb
theorem BadIn.open_ {w:World} {BD m c:Nat} {F:Nat→Nat→Bool} (h:BadAt w BD m F c):BadIn ((w.alloc (.cells (madeCells #[.bool false] m) 4)).setCell ⟨BD,c,none⟩ (.slice (some ⟨w.heap.size,0,none⟩) m m)) BD m F c w.heap.size (fun _=>false):=by
 have hlt:=h.lt
 obtain⟨vs,bs,h1,h2⟩:=h.ex
 refine⟨⟨_,bs,(h1.alloc _).set c _,fun j h3 h4=>?_,if_pos rfl⟩,?_,hlt⟩
 ·obtain⟨a1,a2,a3⟩:=h2 j h3 h4
  refine⟨by rw[if_neg (by omega)];exact a1,?_,a3,by have:=a2.lt;omega⟩
  exact (a2.of_block (Go.Deep.blk_alloc_lt _ _ _ a2.lt)).of_block (Go.Deep.blk_setCell_other _ _ _ _ (show bs j≠BD by omega))
 ·have e:BRow (w.alloc (.cells (madeCells #[.bool false] m) 4)) w.heap.size m (fun _=>false):=World.rowIs_made w _ m _
  exact e.of_block (Go.Deep.blk_setCell_other _ _ _ _ (show w.heap.size≠BD by omega))
theorem BadIn.turn {w w':World} {BD m c cb:Nat} {F:Nat→Nat→Bool} {G G':Nat→Bool} (h:BadIn w BD m F c cb G) (hg:w.grownBy w' (some cb)) (hr:BRow w' cb m G'):BadIn w' BD m F c cb G':=by
 obtain⟨vs,bs,h1,h2,h3⟩:=h.ex
 have hgt:=h.gt
 refine⟨⟨vs,bs,h1.of_block (hg.block _ h1.lt (fun e=>by injection e with e;omega)),fun j h4 h5=>?_,h3⟩,hr,hgt⟩
 obtain⟨a1,a2,a3,a4⟩:=h2 j h4 h5
 exact⟨a1,a2.of_block (hg.block _ a2.lt (fun e=>by injection e with e;omega)),a3,a4⟩
theorem BadIn.oth {w w':World} {BD m c cb lb:Nat} {F:Nat→Nat→Bool} {G:Nat→Bool} (h:BadIn w BD m F c cb G) (hg:w.grownBy w' (some lb)) (hl:cb < lb):BadIn w' BD m F c cb G:=by
 obtain⟨vs,bs,h1,h2,h3⟩:=h.ex
 have hgt:=h.gt
 refine⟨⟨vs,bs,h1.of_block (hg.block _ h1.lt (fun e=>by injection e with e;omega)),fun j h4 h5=>?_,h3⟩,h.row.of_block (hg.block _ h.row.lt (fun e=>by injection e with e;omega)),hgt⟩
 obtain⟨a1,a2,a3,a4⟩:=h2 j h4 h5
 exact⟨a1,a2.of_block (hg.block _ a2.lt (fun e=>by injection e with e;omega)),a3,a4⟩
theorem BadIn.below {w w':World} {BD m c cb:Nat} {F:Nat→Nat→Bool} {G:Nat→Bool} (h:BadIn w BD m F c cb G) (hb:Below w.heap.size w w'):BadIn w' BD m F c cb G:=by
 have hl:=h.row.lt
 obtain⟨vs,bs,h1,h2,h3⟩:=h.ex
 refine⟨⟨vs,bs,h1.of_block (hb.block _ h1.lt),fun j h4 h5=>?_,h3⟩,h.row.of_block (hb.block _ h.row.lt),h.gt⟩
 obtain⟨a1,a2,a3,a4⟩:=h2 j h4 h5
 exact⟨a1,a2.of_block (hb.block _ a2.lt),a3,a4⟩
theorem BadIn.cell {w:World} {BD m c cb:Nat} {F:Nat→Nat→Bool} {G:Nat→Bool} (h:BadIn w BD m F c cb G) (hc:c < 12):w.cell? ⟨BD,c,none⟩=some (.slice (some ⟨cb,0,none⟩) m m):=by
 obtain⟨vs,bs,h1,h2,h3⟩:=h.ex
 rw[h1.cell hc,h3]
theorem BadIn.done {w:World} {BD m c cb:Nat} {F:Nat→Nat→Bool} {G:Nat→Bool} (h:BadIn w BD m F c cb G) (e:∀ i,i < m→G i=F c i):BadAt w BD m F (c+1):=by
 obtain⟨vs,bs,h1,h2,h3⟩:=h.ex
 refine⟨vs,fun j=>if j=c then cb else bs j,h1,fun j h4 h5=>?_⟩
 by_cases hj:j=c
 ·subst hj
  dsimp only
  rw[if_pos rfl]
  exact⟨h3,h.row.congr e,h.gt⟩
 ·dsimp only
  rw[if_neg hj]
  obtain⟨a1,a2,a3,_⟩:=h2 j h4 (by omega)
  exact⟨a1,a2,a3⟩
theorem BadAt.get {w:World} {BD m c:Nat} {F:Nat→Nat→Bool} (h:BadAt w BD m F 12) (h1:1≤c) (h2:c < 12):∃ b,w.cell? ⟨BD,c,none⟩=some (.slice (some ⟨b,0,none⟩) m m)∧∀ i,i < m→w.cell? ⟨b,i,none⟩=some (.bool (F c i)):=by
 obtain⟨vs,bs,h3,h4⟩:=h.ex
 obtain⟨a1,a2,a3⟩:=h4 c h1 h2
 exact⟨bs c,by rw[h3.cell h2,a1],fun i hi=>a2.cell hi⟩
noncomputable def badF (n:Nat) (L:List BR) (f:Nat→Int) (c i:Nat):Bool:=!(f c == 0) && rej (panB n L (f c) c) i
theorem flC_bad (n:Nat) (L:List BR) (f:Nat→Int) (c:Nat):flC n L f c=(List.range L.length).filter (badF n L f c):=by
 unfold flC badF
 by_cases h:f c=0
 ·rw[if_pos h]
  refine (List.filter_eq_nil_iff.2 fun i _=>?_).symm
  rw[h];simp
 ·rw[if_neg h]
  refine List.filter_congr fun i _=>?_
  rw[show (f c == 0)=false by rw[beq_eq_false_iff_ne];exact h]
  rfl
def flsE (F:Nat→Nat→Bool) (i c:Nat):List I2:=((List.range c).filter (fun e=>decide (1≤e) && F e i)).map (fun e:Nat=>((i:Int),(e:Int)))
def flsA (F:Nat→Nat→Bool) (i:Nat):List I2:=(List.range i).flatMap (fun i=>flsE F i 12)
theorem flsE_succ (F:Nat→Nat→Bool) (i c:Nat):flsE F i (c+1)=flsE F i c ++ if (decide (1≤c) && F c i)=true then [((i:Int),(c:Int))] else []:=by
 unfold flsE
 rw[filt_succ (fun e=>decide (1≤e) && F e i) c,List.map_append]
 split<;>simp
theorem flsE_one (F:Nat→Nat→Bool) (i:Nat):flsE F i 1=[]:=by simp[flsE,List.range,List.range.loop]
theorem flsA_succ (F:Nat→Nat→Bool) (i:Nat):flsA F (i+1)=flsA F i ++ flsE F i 12:=by
 unfold flsA
 rw[List.range_succ,List.flatMap_append]
 simp
theorem flsE_len (F:Nat→Nat→Bool) (i c:Nat):(flsE F i c).length≤c:=by
 unfold flsE
 rw[List.length_map]
 exact filt_le _ _
theorem flsA_len (F:Nat→Nat→Bool):∀ i,(flsA F i).length≤i*12
 |0=>by simp[flsA]
 |i+1=>by
  rw[flsA_succ,List.length_append]
  have:=flsA_len F i
  have:=flsE_len F i 12
  omega
theorem mem_flsA {F:Nat→Nat→Bool} {m:Nat} {x:I2}:x∈flsA F m↔∃ i e:Nat,i < m∧e < 12∧1≤e∧F e i=true∧x=((i:Int),(e:Int)):=by
 unfold flsA flsE
 simp only[List.mem_flatMap,List.mem_range,List.mem_map,List.mem_filter,Bool.and_eq_true,decide_eq_true_eq]
 constructor
 ·rintro⟨i,hi,e,⟨h1,h2,h3⟩,rfl⟩
  exact⟨i,e,hi,h1,h2,h3,rfl⟩
 ·rintro⟨i,e,hi,h1,h2,h3,rfl⟩
  exact⟨i,hi,e,⟨h1,h2,h3⟩,rfl⟩
theorem mem_outC {n:Nat} {L:List BR} {f:Nat→Int} {x:I2}:x∈outC n L f 12↔∃ i e:Nat,i < L.length∧e < 12∧badF n L f e i=true∧x=((i:Int),(e:Int)):=by
 unfold outC
 simp only[flC_bad,List.mem_flatMap,List.mem_range,List.mem_map,List.mem_filter]
 constructor
 ·rintro⟨e,he,i,⟨h1,h2⟩,rfl⟩
  exact⟨i,e,h1,he,h2,rfl⟩
 ·rintro⟨i,e,hi,he,h2,rfl⟩
  exact⟨e,he,i,⟨hi,h2⟩,rfl⟩
theorem range_lt (n:Nat):(List.range n).Pairwise (· < ·):=List.pairwise_lt_range
theorem flsE_pw (F:Nat→Nat→Bool) (i c:Nat):(flsE F i c).Pairwise lt2:=by
 unfold flsE
 rw[List.pairwise_map]
 exact ((range_lt c).sublist List.filter_sublist).imp (fun {a b} h=>.inr ⟨rfl,show (a:Int) < (b:Int) by omega⟩)
theorem flsE_fst {F:Nat→Nat→Bool} {i c:Nat} {x:I2} (h:x∈flsE F i c):x.1=(i:Int):=by
 unfold flsE at h
 obtain⟨e,_,rfl⟩:=List.mem_map.1 h
 rfl
theorem flsA_pw (F:Nat→Nat→Bool):∀ m,(flsA F m).Pairwise lt2
 |0=>List.Pairwise.nil
 |m+1=>by
  rw[flsA_succ]
  refine List.pairwise_append.2 ⟨flsA_pw F m,flsE_pw F m 12,fun x hx y hy=>?_⟩
  obtain⟨i,e,hi,_,_,_,rfl⟩:=mem_flsA.1 hx
  exact .inl (by rw[flsE_fst hy];show (i:Int) < (m:Int);omega)
theorem lt2_irr (x:I2):¬ lt2 x x:=fun h=>by rcases h with h|h<;>omega
theorem lt2_asymm {x y:I2} (h:lt2 x y):¬ lt2 y x:=fun h'=>by
 rcases h with h|h<;>rcases h' with h'|h'<;>omega
theorem outC_nodup (n:Nat) (L:List BR) (f:Nat→Int):∀ c,(outC n L f c).Nodup
 |0=>List.Pairwise.nil
 |c+1=>by
  have e:outC n L f (c+1)=outC n L f c ++ (flC n L f c).map (fun i:Nat=>((i:Int),(c:Int))):=by
   unfold outC
   rw[List.range_succ,List.flatMap_append]
   simp
  rw[e]
  refine List.pairwise_append.2 ⟨outC_nodup n L f c,?_,fun x hx y hy h=>?_⟩
  ·rw[List.pairwise_map,flC_bad]
   exact ((range_lt L.length).sublist List.filter_sublist).imp (fun {a b} h e=>by injection e with e1 e2;omega)
  ·subst h
   unfold outC at hx
   obtain⟨e,he,hx⟩:=List.mem_flatMap.1 hx
   obtain⟨i,_,rfl⟩:=List.mem_map.1 hx
   obtain⟨j,_,h⟩:=List.mem_map.1 hy
   injection h with h1 h2
   have:=List.mem_range.1 he
   omega
theorem badF_zero {n:Nat} {L:List BR} {f:Nat→Int} (hva:∀ x∈L,valE x.2=0) {i:Nat} (hi:i < L.length):badF n L f 0 i=false:=by
 unfold badF rej
 have:(panB n L (f 0) 0).pr i=false:=by
  show fB (bat L i).2 ((0:Nat):Int)=false
  cases h:fB (bat L i).2 ((0:Nat):Int) with
  |false=>rfl
  |true=>
   rw[bat_eq hi] at h
   have:=fB_ok (hva _ (List.getElem_mem hi)) h
   unfold okC at this
   omega
 rw[this];simp
theorem flsA_sort {n:Nat} {L:List BR} {f:Nat→Int} (hva:∀ x∈L,valE x.2=0):flsA (badF n L f) L.length=sort2 (outC n L f 12):=by
 refine sort2_one ?_ ((flsA_pw _ _).imp (fun h=>lt2_asymm h))
 refine (List.perm_ext_iff_of_nodup ((flsA_pw _ _).imp (fun {a b} h e=>by subst e;exact lt2_irr _ h)) (outC_nodup n L f 12)).2 fun x=>?_
 rw[mem_flsA,mem_outC]
 constructor
 ·rintro⟨i,e,h1,h2,_,h3,h4⟩
  exact⟨i,e,h1,h2,h3,h4⟩
 ·rintro⟨i,e,h1,h2,h3,h4⟩
  refine⟨i,e,h1,h2,?_,h3,h4⟩
  rcases Nat.eq_zero_or_pos e with h0|h0
  ·subst h0
   rw[badF_zero hva h1] at h3
   cases h3
  ·exact h0
def nx5 (P:Pan) (S:Nat→Bool) (i j:Nat):Bool:=S j && (Go.Buddy.stands P S j || !decide (j < i))
theorem nx5_zero (P:Pan) (S:Nat→Bool) (j:Nat):nx5 P S 0 j=S j:=by unfold nx5;simp
theorem nx5_keep {P:Pan} {S:Nat→Bool} {i:Nat} (h:S i=false∨Go.Buddy.stands P S i=true) (j:Nat):nx5 P S (i+1) j=nx5 P S i j:=by
 unfold nx5
 by_cases e:j=i
 ·subst e
  rcases h with h|h
  ·rw[h];simp
  ·rw[h];simp
 ·have:decide (j < i+1)=decide (j < i):=by
   rw[decide_eq_decide];omega
  rw[this]
theorem nx5_drop {P:Pan} {S:Nat→Bool} {i:Nat} (h:S i=true) (h2:Go.Buddy.stands P S i=false) (j:Nat):nx5 P S (i+1) j=if j=i then false else nx5 P S i j:=by
 unfold nx5
 by_cases e:j=i
 ·subst e
  rw[if_pos rfl,h2]
  simp
 ·rw[if_neg e]
  have:decide (j < i+1)=decide (j < i):=by
   rw[decide_eq_decide];omega
  rw[this]
theorem cntB_le:∀ (n:Nat) {S T:Nat→Bool},(∀ j,j < n→S j=true→T j=true)→cntB n S≤cntB n T
 |0,_,_,_=>Nat.le_refl _
 |n+1,S,T,h=>by
  have ih:=cntB_le n (S:=S) (T:=T) (fun j hj=>h j (by omega))
  unfold cntB
  cases hs:S n with
  |false=>simp;omega
  |true=>rw[h n (by omega) hs];simp;exact ih
theorem cntB_lt:∀ (n:Nat) {S T:Nat→Bool},(∀ j,j < n→S j=true→T j=true)→∀ i,i < n→T i=true→S i=false→cntB n S < cntB n T
 |0,_,_,_,i,hi,_,_=>by omega
 |n+1,S,T,h,i,hi,h1,h2=>by
  by_cases e:i=n
  ·subst e
   have ih:=cntB_le i (S:=S) (T:=T) (fun j hj=>h j (by omega))
   unfold cntB
   rw[h1,h2];simp;omega
  ·have ih:=cntB_lt n (S:=S) (T:=T) (fun j hj=>h j (by omega)) i (by omega) h1 h2
   unfold cntB
   cases hs:S n with
   |false=>simp;omega
   |true=>rw[h n (by omega) hs];simp;omega
structure RInv (w:World) (BD m:Nat) (F:Nat→Nat→Bool) (c cb:Nat) (P:Pan) (S:Nat→Bool) (v:Value) (ch:Bool):Prop where
 bad:BadIn w BD m F c cb (fun i=>P.pr i && !S i)
 left:BOwn w (cb+1) v m S
 keep:Keeps P S
 fin:ch=false→∀ i,i < P.n→S i=true→Go.Buddy.stands P S i=true
structure RIn5 (w:World) (BD m:Nat) (F:Nat→Nat→Bool) (c cb N0:Nat) (P:Pan) (S:Nat→Bool) (v v5:Value) (ch:Bool) (i:Nat):Prop where
 bad:BadIn w BD m F c cb (fun j=>P.pr j && !nx5 P S i j)
 left:BOwn w (cb+1) v m S
 next:BOwn w N0 v5 m (nx5 P S i)
 no:ch=false→∀ j,j < i→S j=true→Go.Buddy.stands P S j=true
 yes:ch=true→∃ j,j < i∧S j=true∧Go.Buddy.stands P S j=false
theorem RInv.start {w:World} {BD m c cb cap:Nat} {F:Nat→Nat→Bool} {P:Pan} {b:Nat} {S:Nat→Bool} (hb:BadIn w BD m F c cb (fun _=>false)) (hl:BOwn w (cb+1) (.slice (some ⟨b,0,none⟩) m cap) m S) (hS:∀ j,j < m→S j=P.pr j):RInv w BD m F c cb P P.pr (.slice (some ⟨b,0,none⟩) m cap) true:=
 ⟨hb.turn (grw_refl _ _) (hb.row.congr (fun j _=>by cases P.pr j<;>rfl)),hl.congr hS,Keeps.start P,fun h=>by cases h⟩
theorem RInv.done {w:World} {BD m c cb:Nat} {F:Nat→Nat→Bool} {P:Pan} {S:Nat→Bool} {v:Value} (h:RInv w BD m F c cb P S v false) (hm:P.n=m) (hF:∀ i,i < m→F c i=rej P i):BadAt w BD m F (c+1):=by
 refine h.bad.done fun i hi=>?_
 rw[hF i hi]
 show (P.pr i && !S i)=rej P i
 rw[h.keep.fin (h.fin rfl) i (by rw[hm];exact hi)]
 rfl
theorem RIn5.start {w w0:World} {BD m c cb N0:Nat} {F:Nat→Nat→Bool} {P:Pan} {S:Nat→Bool} {v v5:Value} (h:RInv w0 BD m F c cb P S v true) (hb:Below w0.heap.size w0 w) (h5:BOwn w N0 v5 m S):RIn5 w BD m F c cb N0 P S v v5 false 0:=by
 refine⟨?_,h.left.below hb,h5.congr (fun j _=>(nx5_zero P S j).symm),fun _ j hj=>by omega,fun e=>by cases e⟩
 have h1:=h.bad.below hb
 exact h1.turn (grw_refl _ _) (h1.row.congr (fun j _=>by rw[nx5_zero]))
theorem RIn5.keep {w w':World} {BD m c cb N0 i:Nat} {F:Nat→Nat→Bool} {P:Pan} {S:Nat→Bool} {v v5:Value} {ch:Bool} (h:RIn5 w BD m F c cb N0 P S v v5 ch i) (hb:Below w.heap.size w w') (hs:S i=false∨Go.Buddy.stands P S i=true):RIn5 w' BD m F c cb N0 P S v v5 ch (i+1):=by
 have h1:=h.bad.below hb
 refine⟨h1.turn (grw_refl _ _) (h1.row.congr (fun j _=>by rw[nx5_keep hs])),h.left.below hb,(h.next.below hb).congr (fun j _=>(nx5_keep hs j).symm),fun e j hj hS=>?_,fun e=>?_⟩
 ·by_cases hji:j=i
  ·subst hji
   rcases hs with hs|hs
   ·rw[hs] at hS;cases hS
   ·exact hs
  ·exact h.no e j (by omega) hS
 ·obtain⟨j,h2,h3⟩:=h.yes e
  exact⟨j,by omega,h3⟩
theorem RIn5.below {w w':World} {BD m c cb N0 i:Nat} {F:Nat→Nat→Bool} {P:Pan} {S:Nat→Bool} {v v5:Value} {ch:Bool} (h:RIn5 w BD m F c cb N0 P S v v5 ch i) (hb:Below w.heap.size w w'):RIn5 w' BD m F c cb N0 P S v v5 ch i:=
 ⟨h.bad.below hb,h.left.below hb,h.next.below hb,h.no,h.yes⟩
theorem RIn5.drop {w:World} {BD m c cb N0 i nb nc:Nat} {F:Nat→Nat→Bool} {P:Pan} {S:Nat→Bool} {v:Value} {ch:Bool} (h:RIn5 w BD m F c cb N0 P S v (.slice (some ⟨nb,0,none⟩) m nc) ch i) (hi:i < m) (hp:P.pr i=true) (hs:S i=true) (h2:Go.Buddy.stands P S i=false) (hN:cb < N0) (hlb:∀ k,v.ownBlock=some k→k < N0) :
  RIn5 ((w.setCell ⟨nb,i,none⟩ (.bool false)).setCell ⟨cb,i,none⟩ (.bool true)) BD m F c cb N0 P S v (.slice (some ⟨nb,0,none⟩) m nc) true (i+1):=by
 have hnb:=h.next.blk
 have g1:w.grownBy (w.setCell ⟨nb,i,none⟩ (.bool false)) (some nb):=grw_set (grw_refl _ _) (.inl rfl)
 have g2:(w.setCell ⟨nb,i,none⟩ (.bool false)).grownBy ((w.setCell ⟨nb,i,none⟩ (.bool false)).setCell ⟨cb,i,none⟩ (.bool true)) (some cb):=grw_set (grw_refl _ _) (.inl rfl)
 have b1:=h.bad.oth g1 (by omega)
 refine⟨b1.turn g2 ((b1.row.set i true).congr (fun j hj=>?_)),?_,?_,fun e=>(by cases e),fun _=>⟨i,by omega,hs,h2⟩⟩
 ·rw[nx5_drop hs h2]
  by_cases e:j=i
  ·subst e;rw[if_pos rfl,if_pos rfl,hp];rfl
  ·rw[if_neg e,if_neg e]
 ·refine BOwn.gr ?_ g2 (by omega)
  refine World.ownsRow.kept h.left g1 ?_
  cases ho:v.ownBlock with
  |none=>exact .inl rfl
  |some k=>exact .inr (fun e=>by injection e with e;have:=hlb k ho;omega)
 ·refine BOwn.gr ?_ g2 hN
  exact (h.next.set i hi false).congr (fun j hj=>by rw[nx5_drop hs h2])
theorem RIn5.out {w:World} {BD m c cb N0:Nat} {F:Nat→Nat→Bool} {P:Pan} {S:Nat→Bool} {v v5:Value} {ch:Bool} (h:RIn5 w BD m F c cb N0 P S v v5 ch m) (hk:Keeps P S) (hc:closed P) (hm:P.n=m) (hN:cb+1≤N0):RInv w BD m F c cb P (nx5 P S m) v5 ch:=by
 have hsub:sub P (nx5 P S m) S:=fun i hi h=>by unfold nx5 at h;rw[Bool.and_eq_true] at h;exact h.1
 refine⟨h.bad,own_mono h.next hN,hk.drop hc hsub (fun i hi h1 h2=>?_),fun hf i hi h1=>?_⟩
 ·unfold nx5 at h2
  rw[h1,zDt (by omega)] at h2
  simpa using h2
 ·have h2:=hsub i hi h1
  refine stands_mono hc (fun j hj hs=>?_) hi (h.no hf i (by omega) h2)
  unfold nx5
  rw[hs,h.no hf j (by omega) hs]
  rfl
theorem RIn5.less {w:World} {BD m c cb N0:Nat} {F:Nat→Nat→Bool} {P:Pan} {S:Nat→Bool} {v v5:Value} (h:RIn5 w BD m F c cb N0 P S v v5 true m):cntB m (nx5 P S m) < cntB m S:=by
 obtain⟨j,h1,h2,h3⟩:=h.yes rfl
 refine cntB_lt m (fun i hi h=>by unfold nx5 at h;rw[Bool.and_eq_true] at h;exact h.1) j h1 h2 ?_
 unfold nx5
 rw[h3,zDt h1]
 simp
end Go.Proofs.YtednaajanciabaaGreatDoor
