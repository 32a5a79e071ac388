import Derived.Test.YtojkamfabapcoaaGreatDoorKPrec
import Derived.Test.YtojkamfabapcoaaGreatDoorGridL
import Derived.Test.YtojkamfabapcoaaGreatDoorKRefB
import Derived.Test.YtojkamfabapcoaaGreatDoorListP
import Derived.Test.YtojkamfabapcoaaGreatDoorKCopy
import Derived.Test.YtojkamfabapcoaaGreatDoorKRLists
set_option maxRecDepth 100000
set_option maxHeartbeats 8000000
set_option linter.unusedSimpArgs false
set_option linter.unusedVariables false
namespace Go.Proofs.YtojkamfabapcoaaGreatDoor
open Go.RowKit Go.Grid Go.Maps Go.Sort Go.Shelf
def NodeI (n i:Int):Prop:=0≤i∧i < countI n
instance (n i:Int):Decidable (NodeI n i):=by unfold NodeI;infer_instance
def nodeB (n i:Int):Bool:=decide (NodeI n i)
theorem next_in {n i:Nat} (h1:1≤n) (h8:n≤8) {x:Int} (h:x∈nextL n i):0≤x∧x < (nodesL n).length:=by
 obtain⟨e,he,h⟩:=mem_next.1 h
 have h5:=edges_in h1 h8 e he
 rcases h with ⟨_,rfl⟩|⟨_,rfl⟩<;>omega
theorem strict_len:∀ {l:List Int} {a b:Int},l.Pairwise (· < ·)→(∀ x∈l,a≤x∧x < b)→a≤b→(l.length:Int)≤b-a
 |[],a,b,_,_,h=>by simp;omega
 |x :: l,a,b,hp,hb,h=>by
  have h3:=hb x (by simp)
  have h4:=strict_len (l:=l) (a:=x+1) (b:=b) (List.pairwise_cons.1 hp).2 (fun y hy=>⟨by have:=(List.pairwise_cons.1 hp).1 y hy;omega,(hb y (by simp[hy])).2⟩) (by omega)
  simp only[List.length_cons];push_cast;omega
theorem next_len {n:Nat} (h1:1≤n) (h8:n≤8) (i:Nat):(nextL n i).length≤700:=by
 have h3:=strict_len (next_strict h1 h8 i) (fun x hx=>next_in h1 h8 hx) (by omega)
 have h4:(nodesL n).length≤642:=by
  rw[nodes_len h1 h8]
  have:=Nat.mul_le_mul (show 10*n≤80 by omega) h8
  omega
 omega
theorem RdI.of_row {w:World} {v:Value} {zs:List Int} (h:RowI w v zs):RdI w v zs:=by
 obtain⟨p,cap,b,h1,h2,h3,h4⟩:=h
 exact⟨p,cap,h1,h2,b,0,fun h=>(h3 h).1,fun j hj=>(h4 j hj).1⟩
theorem NextR.row {w:World} {N M base a:Nat} {ls:Nat→List Int} (h:NextR w N M base ls) (ha:a < M):∃ v,w.cell? ⟨N,a,none⟩=some v∧RdI w v (ls a):=by
 obtain⟨vs,h1,h2,_⟩:=h
 exact⟨vs a,h1.cell ha,RdI.of_row (h2 a ha).1⟩
theorem RdI.of_own {w:World} {base:Nat} {v:Value} {zs:List Int} (h:w.ownsRow base 3 1 v zs.length (zs.map (Value.int .i64))):RdI w v zs:=RdI.of_row (RowI.of_own h)
theorem elEdge:RX.ElemOf Tryz.prog 92 96 (.agg #[.int .i64 0,.int .i64 0]) 2 16:=⟨Tryz.underlying92,by kernel_rfl,rfl,by decide⟩
def EdRow (w:World) (base:Nat) (v:Value) (E:List I2):Prop:=w.ownsRow base 96 2 v E.length (E.flatMap enc2)
theorem EdRow.nil (w:World) (base:Nat):EdRow w base (.slice none 0 0) []:=World.ownsRow_nil _ _ _ _
theorem EdRow.kept {w w':World} {base:Nat} {v:Value} {E:List I2} (h:EdRow w base v E) (hb:Below w.heap.size w w'):EdRow w' base v E:=own_below h hb
theorem EdRow.mono {w:World} {base base':Nat} {v:Value} {E:List I2} (h:EdRow w base v E) (hb:base'≤base):EdRow w base' v E:=own_mono h hb
theorem EdRow.snoc {w:World} {base:Nat} {v:Value} {E:List I2} {a b:Int} (h:w.ownsRow base 96 2 v (E.length+1) (E.flatMap enc2 ++ [.int .i64 a,.int .i64 b])):EdRow w base v (E ++ [(a,b)]):=by
 unfold EdRow;rw[List.flatMap_append,List.length_append];exact h
theorem enc2_get:∀ (C:List I2) (m:Nat) (h:m < C.length) (j:Nat),j < 2→(C.flatMap enc2)[m*2+j]?=(enc2 C[m])[j]?
 |p :: L,0,h,j,hj=>by
  simp only[List.flatMap_cons,Nat.zero_mul,Nat.zero_add]
  rw[List.getElem?_append_left (by simp[enc2];omega)];rfl
 |p :: L,m+1,h,j,hj=>by
  have ih:=enc2_get L m (by simpa using h) j hj
  simp only[List.flatMap_cons]
  rw[List.getElem?_append_right (by simp[enc2];omega),show (m+1)*2+j-(enc2 p).length=m*2+j by simp[enc2];omega,ih];rfl
def EdsAt (w:World) (b:Nat) (C:List I2):Prop:=∀ k (h:k < C.length),w.cell? ⟨b,k*2,none⟩=some (.int .i64 C[k].1)∧w.cell? ⟨b,k*2+1,none⟩=some (.int .i64 C[k].2)
theorem EdRow.form {w:World} {base:Nat} {v:Value} {C:List I2} (h:EdRow w base v C):∃ p cap b,v=.slice p C.length cap∧C.length≤cap∧(0 < C.length→p=some ⟨b,0,none⟩∧base≤b∧b < w.heap.size)∧EdsAt w b C:=by
 rcases Nat.eq_zero_or_pos C.length with h0|h0
 ·obtain⟨p,cap,rfl,hc⟩:=own_slice h
  exact⟨p,cap,0,rfl,hc,fun hh=>by omega,fun j hj=>by omega⟩
 ·obtain⟨g,cap,cur,rfl,hc,hb,hg⟩:=own_some h h0
  refine⟨_,cap,g,rfl,hc,fun _=>⟨rfl,hb,(World.ownsRow.lt h g rfl).2⟩,fun j hj=>?_⟩
  have key:∀ i,i < 2→w.cell? ⟨g,j*2+i,none⟩=(enc2 C[j])[i]?:=fun i hi=>by
   rw[World.ownsRow.cellAt h (j*2+i) (by omega),←enc2_get C j hj i hi]
  exact⟨key 0 (by omega),key 1 (by omega)⟩
def eSo (ls:Nat→List Int) (a m:Nat):List I2:=eTo ls a ++ (((ls a).take m).filter (fun b=>decide ((a:Int) < b))).map (fun b=>((a:Int),b))
theorem eSo_zero (ls:Nat→List Int) (a:Nat):eSo ls a 0=eTo ls a:=by simp[eSo]
theorem eSo_end (ls:Nat→List Int) (a:Nat):eSo ls a (ls a).length=eTo ls (a+1):=by rw[eTo_succ,eSo,List.take_length];rfl
theorem eSo_yes {ls:Nat→List Int} {a m:Nat} (hm:m < (ls a).length) (h:(a:Int) < (ls a)[m]):eSo ls a (m+1)=eSo ls a m ++ [((a:Int),(ls a)[m])]:=by
 unfold eSo
 rw[List.take_succ_eq_append_getElem hm,List.filter_append,List.map_append,←List.append_assoc]
 simp[h]
theorem eSo_no {ls:Nat→List Int} {a m:Nat} (hm:m < (ls a).length) (h:¬ (a:Int) < (ls a)[m]):eSo ls a (m+1)=eSo ls a m:=by
 unfold eSo
 rw[List.take_succ_eq_append_getElem hm,List.filter_append,List.map_append]
 simp[h]
theorem eTo_len (ls:Nat→List Int) (hl:∀ i,(ls i).length≤700):∀ k,(eTo ls k).length≤700*k
 |0=>by simp[eTo]
 |k+1=>by
  have ih:=eTo_len ls hl k
  have h2:=List.length_filter_le (fun b=>decide (((k:Nat):Int) < b)) (ls k)
  have:=hl k
  rw[eTo_succ,List.length_append,eRow,List.length_map];omega
theorem eSo_len (ls:Nat→List Int) (hl:∀ i,(ls i).length≤700) (a m:Nat):(eSo ls a m).length≤700*a+700:=by
 have h1:=eTo_len ls hl a
 have h2:=List.length_filter_le (fun b=>decide (((a:Nat):Int) < b)) ((ls a).take m)
 have h3:=hl a
 rw[List.length_take] at h2
 rw[eSo,List.length_append,List.length_map];omega
theorem nodes_max {n:Nat} (h1:1≤n) (h8:n≤8):(nodesL n).length≤642:=by
 rw[nodes_len h1 h8]
 have:=Nat.mul_le_mul (show 10*n≤80 by omega) h8
 omega
theorem redges_any (n:Nat) (h1:1≤n) (h8:n≤8) (w:World):Calls Tryz.prog 78 #[.int .i64 n] w fun e w'=>∃ v,e=.returned (.tuple #[v,.int .i64 0])∧EdRow w' w.heap.size v (edgesL n)∧Below w.heap.size w w':=by
 obtain⟨c,hcE,hc0⟩:∃ c:Int,countI n=c∧(c == 0)=false:=⟨_,rfl,(countI_nat h1 h8).2.1⟩
 have HCE:=zN hcE
 clear hcE
 have HE:Hid (eTo (nextL n) (nodesL n).length=edgesL n):=zN (edges_rows h1 h8)
 have HL:Hid (∀ i,(nextL n i).length≤700):=zN (fun i=>next_len h1 h8 i)
 have hM:=nodes_max h1 h8
 go_enter Tryz.func78,Tryz.ntmps78
 go_wp2_with fail
 refine (rcount_any n _).mono ?_
 rintro e w1 ⟨rfl,rfl⟩
 rw[HCE.out]
 go_wp2_with fail
 refine (raround_any n h1 h8 _).mono ?_
 rintro e w2 ⟨N,rfl,hA,hN,hb⟩
 generalize (nodesL n).length=M at *
 generalize nextL n=ls at *
 have HA:=zN hA
 have hNl:=hA.lt
 have hsz:=hb.size
 have HB:=zN hb
 clear hA hb h1 h8
 go_wp2
 go_loopw [4,6] (fun v i wr=>∃ a:Nat,a≤M∧i=.int .i64 a∧EdRow wr w2.heap.size v (eTo ls a)∧Below w2.heap.size w2 wr) (fun _ i _=>700-(intOf i).toNat)
 case atStart=>exact⟨0,by omega,rfl,EdRow.nil _ _,zBr _ _⟩
 case round=>
  obtain⟨a,ha,rfl,hrow,hB⟩:=hrel
  by_cases hlta:a < M
  ·have hda:decide ((a:Int) < (M:Int))=true:=zDt (by omega)
   obtain⟨p,cap,b,hc,hf,hcap,hpb,hel,_,_⟩:=HA.out.row hlta
   replace hc:=zP hB hc
   replace hel:=fun j hj=>zP hB (hel j hj)
   obtain⟨n',hn'⟩:∃ n',n'=(ls a).length:=⟨_,rfl⟩
   rw[←hn'] at hc hcap hpb
   have hl7:=HL.out a
   rw[←hn'] at hl7
   have HN:=zN hn'
   have hszB:=hB.size
   have HEL:=zN hel
   clear hn' hel hf
   go_wp2
   go_loopw [4,25] (fun v i wx=>∃ m:Nat,m≤n'∧i=.int .i64 m∧EdRow wx w2.heap.size v (eSo ls a m)∧Below w2.heap.size w2 wx∧Hid (∀ j (hj:j < (ls a).length),wx.cell? ⟨b,j,none⟩=some (.int .i64 (ls a)[j]))) (fun _ i _=>701-(intOf i).toNat)
   case atStart=>exact⟨0,by omega,rfl,by rw[eSo_zero];exact hrow,hB,HEL⟩
   case round=>
    obtain⟨m,hm,rfl,hrow1,hB1,HEL1⟩:=hrel
    clear hrow hB HEL
    by_cases hltm:m < n'
    ·have hdm:decide ((m:Int) < (n':Int))=true:=zDt (by omega)
     have hml:m < (ls a).length:=by rw[←HN.out];exact hltm
     obtain⟨rfl,hb1,hb2⟩:=hpb (by omega)
     obtain⟨x,hx⟩:∃ x,x=(ls a)[m]:=⟨_,rfl⟩
     have hxc:=HEL1.out m hml
     rw[←hx] at hxc
     have hszB1:=hB1.size
     by_cases hax:(a:Int) < x
     ·have HS:Hid (eSo ls a (m+1)=eSo ls a m ++ [((a:Int),x)]):=zN (by rw[hx];exact eSo_yes hml (by rw[←hx];exact hax))
      have hlen:=eSo_len ls HL.out a m
      obtain⟨p2,cap2,rfl,hcap2⟩:=own_slice hrow1
      generalize eSo ls a m=E at *
      have hown:=World.ownsRow.alloc hrow1 (.cells #[.int .i64 a,.int .i64 x] 96)
      have HX:=zN hx
      clear hx hrow1
      have HB1:=zN hB1
      clear hB1
      go_wp2_with (refine RX.wpl_apq (by rfl) elEdge _ _ (by rfl) w2.heap.size _ _ _ hown (by rfl) wr.heap.size _ 1 (by rfl) (heap_alloc_new _ _) (by rfl) (by simp[Value.oneCell']) (by omega) (by omega) (by simp;omega) ?_;intro v' w5 hown5 hb6 hg6 hat6)
      have hb5:Below w2.heap.size w2 w5:=(HB1.out.alloc (by omega) _).trans hb6
      have HR:=zN (EdRow.snoc hown5)
      have HB5:=zN hb5
      have hlow:∀ q,(Value.slice p2 E.length cap2).ownBlock=some q→w2.heap.size≤q:=fun q hq=>(World.ownsRow.lt hown q hq).1
      have HEL5:Hid (∀ j (hj:j < (ls a).length),w5.cell? ⟨b,j,none⟩=some (.int .i64 (ls a)[j])):=zN (fun j hj=>by
       have h9:=zP ((zBr wr.heap.size wr).alloc (Nat.le_refl _) (.cells #[.int .i64 a,.int .i64 x] 96)) (HEL1.out j hj)
       exact hg6.cell h9 (fun e=>by have:=hlow b e.symm;omega))
      clear hown5 hb6 hg6 hat6 hb5 hown hlow
      go_roundw
      case rel=>exact⟨m+1,by omega,by go_num,by rw[HS.out];exact HR.out,HB5.out,HEL5⟩
      case measure=>simp[intOf];omega
     ·have HS:Hid (eSo ls a (m+1)=eSo ls a m):=zN (by exact eSo_no hml (by rw[←hx];exact hax))
      have HR:=zN hrow1
      have HB1:=zN hB1
      clear hrow1 hB1 hx
      go_wp2
      go_roundw
      case rel=>exact⟨m+1,by omega,by go_num,by rw[HS.out];exact HR.out,HB1.out,HEL1⟩
      case measure=>simp[intOf];omega
    ·have hdm:decide ((m:Int) < (n':Int))=false:=zDf (by omega)
     have HR:=zN hrow1
     have HB1:=zN hB1
     have hmn:m=n':=by omega
     have HMN:=zN hmn
     clear hrow1 hB1 hmn
     go_wp2
     go_roundw
     case rel=>exact⟨a+1,by omega,by go_num,by rw[←eSo_end,←HN.out,←HMN.out];exact HR.out,HB1.out⟩
     case measure=>simp[intOf];omega
  ·have hda:decide ((a:Int) < (M:Int))=false:=zDf (by omega)
   have haM:a=M:=by omega
   have HAM:=zN haM
   have HR:=zN hrow
   have HB1:=zN hB
   clear haM hrow hB
   go_wp2
   go_ret2
   exact⟨_,rfl,by rw[←HE.out,←HAM.out];exact HR.out.mono hsz,HB.out.trans (HB1.out.mono hsz)⟩
def fErr (x:Int):Int:=if 1≤x∧x≤8 then 0 else 1
def onF {α:Type} (x:Int) (L:Nat→List α):List α:=if 1≤x∧x≤8 then L x.toNat else []
def RdPl (w:World) (v:Value) (L:List Pl):Prop:=∃ p cap b,v=.slice p L.length cap∧L.length≤cap∧(0 < L.length→p=some ⟨b,0,none⟩)∧PlsAt w b L
def RdCe (w:World) (v:Value) (C:List I3):Prop:=∃ p cap b,v=.slice p C.length cap∧C.length≤cap∧(0 < C.length→p=some ⟨b,0,none⟩)∧CesAt w b C
def RdEd (w:World) (v:Value) (E:List I2):Prop:=∃ p cap b,v=.slice p E.length cap∧E.length≤cap∧(0 < E.length→p=some ⟨b,0,none⟩)∧EdsAt w b E
theorem RdPl.nil (w:World):RdPl w (.slice none 0 0) []:=⟨none,0,0,rfl,Nat.le_refl _,fun h=>by simp at h,fun k hk=>by simp at hk⟩
theorem RdCe.nil (w:World):RdCe w (.slice none 0 0) []:=⟨none,0,0,rfl,Nat.le_refl _,fun h=>by simp at h,fun k hk=>by simp at hk⟩
theorem RdEd.nil (w:World):RdEd w (.slice none 0 0) []:=⟨none,0,0,rfl,Nat.le_refl _,fun h=>by simp at h,fun k hk=>by simp at hk⟩
theorem RdPl.below {w w':World} {v:Value} {L:List Pl} (h:RdPl w v L) (hb:Below w.heap.size w w'):RdPl w' v L:=by
 obtain⟨p,cap,b,h1,h2,h3,h4⟩:=h
 exact⟨p,cap,b,h1,h2,h3,fun k hk=>⟨zP hb (h4 k hk).1,zP hb (h4 k hk).2.1,zP hb (h4 k hk).2.2.1,zP hb (h4 k hk).2.2.2⟩⟩
theorem RdCe.below {w w':World} {v:Value} {L:List I3} (h:RdCe w v L) (hb:Below w.heap.size w w'):RdCe w' v L:=by
 obtain⟨p,cap,b,h1,h2,h3,h4⟩:=h
 exact⟨p,cap,b,h1,h2,h3,fun k hk=>⟨zP hb (h4 k hk).1,zP hb (h4 k hk).2.1,zP hb (h4 k hk).2.2⟩⟩
theorem RdEd.below {w w':World} {v:Value} {L:List I2} (h:RdEd w v L) (hb:Below w.heap.size w w'):RdEd w' v L:=by
 obtain⟨p,cap,b,h1,h2,h3,h4⟩:=h
 exact⟨p,cap,b,h1,h2,h3,fun k hk=>⟨zP hb (h4 k hk).1,zP hb (h4 k hk).2⟩⟩
theorem RdPl.of_row {w:World} {base:Nat} {v:Value} {L:List Pl} (h:PlRow w base v L):RdPl w v L:=by
 obtain⟨p,cap,b,h1,h2,h3,h4⟩:=h.form
 exact⟨p,cap,b,h1,h2,fun h=>(h3 h).1,h4⟩
theorem RdCe.of_row {w:World} {base:Nat} {v:Value} {L:List I3} (h:CeRow w base v L):RdCe w v L:=by
 obtain⟨p,cap,b,h1,h2,h3,h4⟩:=h.form
 exact⟨p,cap,b,h1,h2,fun h=>(h3 h).1,h4⟩
theorem RdEd.of_row {w:World} {base:Nat} {v:Value} {L:List I2} (h:EdRow w base v L):RdEd w v L:=by
 obtain⟨p,cap,b,h1,h2,h3,h4⟩:=h.form
 exact⟨p,cap,b,h1,h2,fun h=>(h3 h).1,h4⟩
def nErr (n i:Int):Int:=if NodeI n i then 0 else 1
def nbL (n i:Int):List Int:=if NodeI n i then nextL n.toNat i.toNat else []
end Go.Proofs.YtojkamfabapcoaaGreatDoor
