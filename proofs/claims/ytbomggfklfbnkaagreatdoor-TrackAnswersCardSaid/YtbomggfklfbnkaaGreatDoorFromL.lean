import Derived.Test.YtbomggfklfbnkaaGreatDoorKCopy
import Derived.Test.YtbomggfklfbnkaaGreatDoorBfs
import Derived.Test.YtbomggfklfbnkaaGreatDoorKRefB
set_option maxRecDepth 100000
set_option maxHeartbeats 8000000
set_option linter.unusedSimpArgs false
set_option linter.unusedVariables false
namespace Go.Bfs
def Lt (s:St):Prop:=∀ v,s.1 v < s.2.length
theorem Lt.step1 {s:St} (h:Lt s) (u v:Nat):Lt (step u s v):=by
 unfold step
 split
 ·intro j
  dsimp only
  rw[List.length_append,List.length_singleton]
  have h1:=h u
  have h2:=h j
  push_cast
  split<;>omega
 ·exact h
theorem Lt.row {u:Nat}:∀ (row:List Nat) {s:St},Lt s→Lt (row.foldl (step u) s)
 |[],_,h=>h
 |x :: row,s,h=>Lt.row row (h.step1 u x)
theorem Lt.start (nb:Nat→List Nat) (a:Nat):Lt (st nb a 0):=fun v=>by
 simp only[st,List.length_singleton]
 split<;>omega
theorem fold_take {u:Nat} {s:St} {row:List Nat} {m:Nat} (hm:m < row.length):(row.take (m+1)).foldl (step u) s=step u ((row.take m).foldl (step u) s) row[m]:=by
 rw[List.take_succ_eq_append_getElem hm,List.foldl_append];rfl
theorem Inv.part {nb:Nat→List Nat} {a N i u m:Nat} {s:St} (h:Inv nb a N i s) (hu:s.2[i]?=some u) (hr:∀ v∈nb u,v < N):Inv nb a N i (((nb u).take m).foldl (Bfs.step u) s)∧(((nb u).take m).foldl (Bfs.step u) s).2[i]?=some u:=by
 obtain⟨h1,h2,_⟩:=Inv.row ((nb u).take m) h hu (fun v hv=>⟨List.mem_of_mem_take hv,hr v (List.mem_of_mem_take hv)⟩)
 exact⟨h1,h2⟩
theorem step_yes {s:St} {u v:Nat} (h:s.1 v < 0):step u s v=(fun j=>if j=v then s.1 u+1 else s.1 j,s.2 ++ [v]):=by unfold step;rw[if_pos h]
theorem step_no {s:St} {u v:Nat} (h:¬ s.1 v < 0):step u s v=s:=by unfold step;rw[if_neg h]
end Go.Bfs
namespace Go.Proofs.YtbomggfklfbnkaaGreatDoor
open Go.RowKit Go.Grid
def nbN (ls:Nat→List Int) (u:Nat):List Nat:=(ls u).map Int.toNat
theorem nbN_lt {M:Nat} {ls:Nat→List Int} (hr:∀ i,i < M→∀ x∈ls i,0≤x∧x < (M:Int)):∀ u,u < M→∀ v∈nbN ls u,v < M:=fun u hu v hv=>by
 obtain⟨x,hx,rfl⟩:=List.mem_map.1 hv
 have:=hr u hu x hx
 omega
def qV (l:List Nat):List Value:=l.map (fun u:Nat=>Value.int .i64 u)
def QRow (w:World) (base:Nat) (v:Value) (l:List Nat):Prop:=w.ownsRow base 3 1 v l.length (qV l)
theorem QRow.snoc {w:World} {base:Nat} {v:Value} {l:List Nat} {u:Nat} (h:w.ownsRow base 3 1 v (l.length+1) (qV l ++ [.int .i64 u])):QRow w base v (l ++ [u]):=by
 unfold QRow qV at *;rw[List.map_append,List.length_append];exact h
theorem QRow.at_ {w:World} {base i u:Nat} {v:Value} {l:List Nat} (h:QRow w base v l) (hu:l[i]?=some u):∃ g cap,v=.slice (some ⟨g,0,none⟩) l.length cap∧l.length≤cap∧base≤g∧g < w.heap.size∧w.cell? ⟨g,i,none⟩=some (.int .i64 u):=by
 have hi:i < l.length:=by rw[List.getElem?_eq_some_iff] at hu;exact hu.1
 obtain⟨g,cap,h1,h2,h3,h4,h5⟩:=own_cells h (by omega)
 refine⟨g,cap,h1,h2,h3,h4,?_⟩
 rw[h5 i hi]
 unfold qV
 rw[List.getElem?_map,hu];rfl
theorem elIn:RX.ElemOf Tryz.prog 23 3 (.int .i64 0) 1 8:=⟨Tryz.underlying23,by kernel_rfl,rfl,by decide⟩
theorem fromlist_any (N M cap a:Nat) (ls:Nat→List Int) (w:World) (hR:RowsRd w N M ls) (hr:∀ i,i < M→∀ x∈ls i,0≤x∧x < (M:Int)) (hl:∀ i,(ls i).length≤700) (ha:a < M) (hM:M≤642) (hcap:M≤cap) :
  Calls Tryz.prog 61 #[.slice (some ⟨N,0,none⟩) M cap,.int .i64 a] w fun e w'=>∃ i,e=.returned (.slice (some ⟨w.heap.size,0,none⟩) M M)∧(Bfs.st (nbN ls) a i).2.length=i∧FRow w' w.heap.size M (Bfs.st (nbN ls) a i).1∧Below w.heap.size w w':=by
 have hmk1:=run_make_row' (P:=Tryz.prog) 23 3 (.int .i64 0) 8 Tryz.underlying23 (by kernel_rfl) rfl .i64 .i64 M (by omega) (by omega)
 have HR:=zN hR
 have HNB:=zN (nbN_lt hr)
 have HRR:=zN hr
 have HLL:=zN hl
 clear hR hr hl
 go_enter Tryz.func61,Tryz.ntmps61
 go_wp2
 clear hmk1
 refine absW (F:=fun w'=>FRow w' w.heap.size M (fun _=>0)∧Below w.heap.size w w'∧w.heap.size < w'.heap.size) ⟨FRow.made w M,(zBr w.heap.size w).alloc (Nat.le_refl _) _,by simp⟩ ?_
 rintro W0 ⟨hF0,hb0,hs0⟩
 obtain⟨b,hbe⟩:∃ b,b=w.heap.size:=⟨_,rfl⟩
 have HBE:=zN hbe
 rw[←hbe] at hF0 hs0 hb0 ⊢
 clear hbe
 go_loopw [6] (fun i wr=>∃ k:Nat,k≤M∧i=.int .i64 k∧FRow wr b M (fun j=>if j < k then -1 else 0)∧Below b w wr∧b < wr.heap.size) (fun i _=>M-(intOf i).toNat)
 case atStart=>exact⟨0,Nat.zero_le _,rfl,hF0.ext (fun k _=>by simp),hb0,hs0⟩
 case round=>
  clear hF0 hb0 hs0
  obtain⟨k,hk,rfl,hF,hb,hs⟩:=hrel
  by_cases hlt:k < M
  ·have hdk:decide ((k:Int) < (M:Int))=true:=zDt (by omega)
   obtain⟨c0,f0⟩:=hF k hlt
   have HF:=zN hF
   have HB:=zN hb
   clear hF hb
   go_wp2
   go_roundw
   case rel=>exact⟨k+1,by omega,by go_num,(HF.out.set k (-1)).ext (fun j hj=>by split<;>(try split)<;>(try split)<;>omega),HB.out.setCell (by simp) _,by simp[World.setCell];omega⟩
   case measure=>simp[intOf];omega
  ·have hdk:decide ((k:Int) < (M:Int))=false:=zDf (by omega)
   have hkM:k=M:=by omega
   have HKM:=zN hkM
   have HB:=zN hb
   obtain⟨c0,f0⟩:=hF a ha
   have HF:=zN hF
   have hab:(0:Int)≤(a:Int):=by omega
   have hab2:(a:Int) < (M:Int):=by omega
   clear hkM hb hF
   go_wp2
   refine absW (F:=fun w'=>FRow w' b M (Bfs.st (nbN ls) a 0).1∧Below b w w'∧QRow w' (b+1) (.slice (some ⟨wr.heap.size,0,none⟩) 1 1) (Bfs.st (nbN ls) a 0).2∧b < w'.heap.size) ⟨?_,?_,?_,?_⟩ ?_
   ·refine ((HF.out.set a 0).kept (heap_alloc_old _ _ (by simp[World.setCell];omega))).ext (fun j hj=>?_)
    have hkM:=HKM.out
    simp only[Bfs.st]
    split<;>(try split)<;>omega
   ·exact (HB.out.setCell (by simp) _).alloc (by simp[World.setCell];omega) _
   ·have h9:=RX.own_new (w:=(wr.setCell ⟨b,a,none⟩ (.int .i64 0)).alloc (.cells #[.int .i64 a] 3)) (B:=wr.heap.size) (cs:=#[.int .i64 a]) (e:=3) (size:=1) (by rw[←World.size_setCell wr ⟨b,a,none⟩ (.int .i64 0)];exact heap_alloc_new _ _) rfl
    exact own_mono h9 (by omega)
   ·simp[World.setCell];omega
   rintro W1 ⟨hF1,hb1,hq1,hs1⟩
   have KEEP:Hid (∀ wx,Below b w wx→∀ p v,w.cell? p=some v→wx.cell? p=some v):=zN (fun wx hb p v h=>zP (by rw[←HBE.out];exact hb) h)
   clear HF HB c0 f0 hs
   go_loopw [7,8] (fun q i wx=>∃ k:Nat,i=.int .i64 k∧k≤(Bfs.st (nbN ls) a k).2.length∧QRow wx (b+1) q (Bfs.st (nbN ls) a k).2∧FRow wx b M (Bfs.st (nbN ls) a k).1∧Below b w wx∧Hid (Bfs.Lt (Bfs.st (nbN ls) a k))∧b < wx.heap.size) (fun _ i _=>643-(intOf i).toNat)
   case atStart=>exact⟨0,rfl,Nat.zero_le _,hq1,hF1,hb1,zN (Bfs.Lt.start _ _),hs1⟩
   case round=>
    clear hF1 hb1 hq1 hs1
    obtain⟨k,rfl,hk,hq,hF,hb,HLT,hs⟩:=hrel
    have hI:=Bfs.st_inv ha HNB.out k hk
    obtain⟨S,hS⟩:∃ S,S=Bfs.st (nbN ls) a k:=⟨_,rfl⟩
    have HS:=zN hS
    rw[←hS] at hk hq hF HLT hI
    clear hS
    have hlen:=Bfs.nodup_le hI.nodup hI.lt
    have HI:=zN hI
    clear hI
    by_cases hlt:k < S.2.length
    ·have hdk:decide ((k:Int) < (S.2.length:Int))=true:=zDt (by omega)
     obtain⟨u,hu⟩:∃ u,S.2[k]?=some u:=⟨_,List.getElem?_eq_getElem hlt⟩
     have huM:u < M:=HI.out.lt u (List.mem_of_getElem? hu)
     obtain⟨g,qc,rfl,hqc,hg1,hg2,hgk⟩:=hq.at_ hu
     obtain⟨v,hv,hrd⟩:=HR.out u huM
     obtain⟨p,pc,rfl,hpc,rb,ro,hrp,hrc⟩:=hrd
     replace hv:=KEEP.out wr hb _ _ hv
     obtain⟨n',hn'⟩:∃ n',n'=(ls u).length:=⟨_,rfl⟩
     rw[←hn'] at hv hpc hrp
     have hl7:=HLL.out u
     rw[←hn'] at hl7
     have HN':=zN hn'
     have HRC:=zN hrc
     have HU:=zN hu
     have hu0:(0:Int)≤(u:Int):=by omega
     have huM':(u:Int) < (M:Int):=by omega
     have HB:=zN hb
     have HF:=zN hF
     have HQ:=zN hq
     clear hn' hrc hu hb hF hq
     go_wp2
     go_loopw [7,42] (fun q i wy=>∃ m:Nat,m≤n'∧i=.int .i64 m∧QRow wy (b+1) q (((nbN ls u).take m).foldl (Bfs.step u) S).2∧FRow wy b M (((nbN ls u).take m).foldl (Bfs.step u) S).1∧Below b w wy∧b < wy.heap.size) (fun _ i _=>701-(intOf i).toNat)
     case atStart=>exact⟨0,Nat.zero_le _,rfl,HQ.out,HF.out,HB.out,hs⟩
     case round=>
      clear HQ HF HB hs hgk hv
      obtain⟨m,hm,rfl,hq,hF,hb,hs⟩:=hrel
      obtain⟨hI2,hu2⟩:=HI.out.part (m:=m) HU.out (HNB.out u huM)
      have hLT2:=Bfs.Lt.row ((nbN ls u).take m) (u:=u) HLT.out
      have hlen2:=Bfs.nodup_le hI2.nodup hI2.lt
      by_cases hltm:m < n'
      ·have hdm:decide ((m:Int) < (n':Int))=true:=zDt (by omega)
       have hml:m < (ls u).length:=by rw[←HN'.out];exact hltm
       have hmn:m < (nbN ls u).length:=by unfold nbN;rw[List.length_map];exact hml
       have hxc:=KEEP.out wr hb _ _ (HRC.out m hml)
       obtain rfl:=hrp (by omega)
       obtain⟨x,hx,hx1⟩:∃ x:Nat,(ls u)[m]=(x:Int)∧(nbN ls u)[m]=x:=⟨(ls u)[m].toNat,by have:=HRR.out u huM _ (List.getElem_mem hml);omega,by simp[nbN]⟩
       have hxM:x < M:=by have:=HRR.out u huM _ (List.getElem_mem hml);omega
       rw[hx] at hxc
       have HFT:=zN (Bfs.fold_take (u:=u) (s:=S) hmn)
       rw[hx1] at HFT
       clear hx hx1 hmn
       generalize ((nbN ls u).take m).foldl (Bfs.step u) S=T at *
       obtain⟨c1,f1⟩:=hF x hxM
       obtain⟨d,hd⟩:∃ d,d=T.1 x:=⟨_,rfl⟩
       rw[←hd] at c1
       have hdb:d < 642:=by have:=hLT2 x;omega
       have hdl:-1≤d:=by
        by_cases h9:d < 0
        ·have:=hI2.neg x (by omega);omega
        ·omega
       have hx0:(0:Int)≤(x:Int):=by omega
       have hxM':(x:Int) < (M:Int):=by omega
       by_cases hneg:d < 0
       ·have HT:Hid (Bfs.step u T x=(fun j=>if j=x then T.1 u+1 else T.1 j,T.2 ++ [x])):=zN (Bfs.step_yes (by omega))
        obtain⟨g1,q1,rfl,hq1,hg11,hg12,hg1k⟩:=hq.at_ hu2
        obtain⟨c2,f2⟩:=hF u huM
        obtain⟨d2,hd2⟩:∃ d2,d2=T.1 u:=⟨_,rfl⟩
        rw[←hd2] at c2
        have HD2:=zN hd2
        have hkT:k < T.2.length:=by rw[List.getElem?_eq_some_iff] at hu2;exact hu2.1
        have hkT2:(k:Int) < (T.2.length:Int):=by omega
        have hd2a:0≤d2:=by rw[hd2];exact (hI2.mem u).1 (List.mem_of_getElem? hu2)
        have hd2b:d2 < 642:=by have:=hLT2 u;omega
        have hgb:(⟨b,x,none⟩:Addr)≠⟨g1,k,none⟩:=by intro e;injection e;omega
        have HF:=zN hF
        have HB:=zN hb
        have hown:=World.ownsRow.alloc (ownsRow_setCell_other hq (a:=⟨b,x,none⟩) (by intro e;injection e with e;simp at e;omega) (.int .i64 (d2+1))) (.cells #[.int .i64 x] 3)
        clear hF hb hq hd hd2 hI2 hLT2 hu2
        go_wp2_with (refine RX.wpl_apq (by rfl) elIn _ _ (by rfl) (b+1) _ _ _ hown (by rfl) wr.heap.size _ 1 (by rfl) (by rw[←World.size_setCell wr ⟨b,x,none⟩ (.int .i64 (d2+1))];exact heap_alloc_new _ _) (by rfl) (by simp[Value.oneCell']) (by omega) (by omega) (by simp[World.setCell];omega) ?_;intro v' w5 hown5 hb6 hg6 hat6)
        have hF5:FRow w5 b M (Bfs.step u T x).1:=by
         rw[HT.out]
         refine (((HF.out.set x (d2+1)).kept (heap_alloc_old _ _ (by simp[World.setCell];omega))).kept (hb6.block b (by omega))).ext (fun j hj=>?_)
         dsimp only
         split
         ·rw[HD2.out]
         ·rfl
        have hQ5:QRow w5 (b+1) v' (Bfs.step u T x).2:=by rw[HT.out];exact QRow.snoc hown5
        have hB5:Below b w w5:=((HB.out.setCell (by simp) _).alloc (by simp[World.setCell];omega) _).trans (hb6.mono (by omega))
        have hs5:b < w5.heap.size:=by have:=hb6.size;simp[World.setCell] at this;omega
        have HALL:=zN (And.intro hF5 (And.intro hQ5 hB5))
        clear hF5 hQ5 hB5 hown5 hb6 hg6 hat6 hown
        go_roundw
        case rel=>exact⟨m+1,by omega,by go_num,by rw[HFT.out];exact HALL.out.2.1,by rw[HFT.out];exact HALL.out.1,HALL.out.2.2,hs5⟩
        case measure=>simp[intOf];omega
       ·have HT:Hid (Bfs.step u T x=T):=zN (Bfs.step_no (by omega))
        have HQ:=zN hq
        have HF:=zN hF
        have HB:=zN hb
        clear hq hF hb hd hI2 hLT2 hu2
        go_wp2
        go_roundw
        case rel=>exact⟨m+1,by omega,by go_num,by rw[HFT.out,HT.out];exact HQ.out,by rw[HFT.out,HT.out];exact HF.out,HB.out,hs⟩
        case measure=>simp[intOf];omega
      ·have hdm:decide ((m:Int) < (n':Int))=false:=zDf (by omega)
       have hmn:m=n':=by omega
       have HALL:Hid (((nbN ls u).take m).foldl (Bfs.step u) S=Bfs.st (nbN ls) a (k+1)):=zN (by
        rw[Bfs.st_next (u:=u) (by rw[←HS.out];exact HU.out),←HS.out,hmn,HN'.out,List.take_of_length_le (by unfold nbN;rw[List.length_map];exact Nat.le_refl _)])
       rw[HALL.out] at hq hF hI2 hu2 hlen2
       have hk1:k+1≤(Bfs.st (nbN ls) a (k+1)).2.length:=by
        rw[List.getElem?_eq_some_iff] at hu2;exact hu2.1
       rw[HALL.out] at hLT2
       have HQ:=zN hq
       have HF:=zN hF
       have HB:=zN hb
       have HL2:=zN hLT2
       have HK1:=zN hk1
       clear hq hF hb hI2 hLT2 hu2 hk1 hmn hlen2
       go_wp2
       go_roundw
       case rel=>exact⟨k+1,by go_num,HK1.out,HQ.out,HF.out,HB.out,HL2,hs⟩
       case measure=>simp[intOf];omega
    ·have hdk:decide ((k:Int) < (S.2.length:Int))=false:=zDf (by omega)
     have hkl:k=S.2.length:=by omega
     have HKL:=zN hkl
     have HF:=zN hF
     have HB:=zN hb
     obtain⟨p,cap2,rfl,hc2⟩:=own_slice hq
     clear hkl hF hb hq
     go_wp2
     go_ret
     exact⟨k,(by rw[HBE.out];rfl),by rw[←HS.out];exact HKL.out.symm,by rw[←HS.out,←HBE.out];exact HF.out,by rw[←HBE.out];exact HB.out⟩
end Go.Proofs.YtbomggfklfbnkaaGreatDoor
