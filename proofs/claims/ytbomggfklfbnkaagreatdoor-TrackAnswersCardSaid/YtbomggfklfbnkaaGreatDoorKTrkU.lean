import Derived.Test.YtbomggfklfbnkaaGreatDoorKTrkS
import Derived.WalkMore
import Derived.Test.YtbomggfklfbnkaaGreatDoorKPlainG
import Derived.Test.YtbomggfklfbnkaaGreatDoorKLinV
import Derived.Test.YtbomggfklfbnkaaGreatDoorKSrc
set_option maxRecDepth 100000
set_option maxHeartbeats 8000000
set_option linter.unusedSimpArgs false
set_option linter.unusedVariables false
namespace Go.Proofs.YtbomggfklfbnkaaGreatDoor
open Go.RowKit Go.Grid Go.Maps Go.Sort Go.Shelf Go.Chain
structure L3 (w2 wx:World) (g c R2 m n0:Nat) (D:DataW Unit) (left:Lit→Bool) (cnt:Nat) (v12:Value) (out:List Nat):Prop where
 rg:wx.ranges Tryz.prog 9 rowEl m R2 n0 D left cnt
 qo:QRow wx (R2+1) v12 out
 fd:FieldAt wx g c (fun b=>b < g∨b=R2∨v12.ownBlock=some b)
 bl:Below w2.heap.size w2 wx
 sz:R2 < wx.heap.size
theorem L3.next {w2 wx w':World} {g c R2 m n0:Nat} {D:DataW Unit} {left left':Lit→Bool} {cnt cnt':Nat} {v12:Value} {out:List Nat} (h:L3 w2 wx g c R2 m n0 D left cnt v12 out) (hgm:w2.heap.size≤R2) (hr:w'.ranges Tryz.prog 9 rowEl m R2 n0 D left' cnt') (hg:wx.grownBy w' (some R2)):L3 w2 w' g c R2 m n0 D left' cnt' v12 out:=by
 have hlo:∀ b,v12.ownBlock=some b→R2+1≤b∧b < wx.heap.size:=fun b hb=>World.ownsRow.lt h.qo b hb
 refine⟨hr,own_gr h.qo hg (by omega),h.fd.turn (fun i hi hx=>hg.block i hi (fun e=>hx (.inr (.inl (by injection e))))) hg.size (fun b hx=>⟨.inl hx,?_⟩),h.bl.grown hg h.bl.size (fun j hj=>by injection hj with hj;omega),Nat.lt_of_lt_of_le h.sz hg.size⟩
 have:=h.fd.xl b hx
 exact Nat.lt_of_lt_of_le this hg.size
structure L5 (w2 wx:World) (g c R2 m n0:Nat) (D:DataW Unit) (left:Lit→Bool) (cnt:Nat) (v12 v18:Value) (out ch:List Nat):Prop where
 rg:wx.ranges Tryz.prog 9 rowEl m R2 n0 D left cnt
 qo:QRow wx (R2+1) v12 out
 qc:QRow wx (R2+1) v18 ch
 ap:∀ b,v12.ownBlock=some b→v18.ownBlock≠some b
 fd:FieldAt wx g c (fun b=>b < g∨b=R2∨v12.ownBlock=some b∨v18.ownBlock=some b)
 bl:Below w2.heap.size w2 wx
 sz:R2 < wx.heap.size
theorem L5.push {w2 wx w':World} {g c R2 m n0:Nat} {D:DataW Unit} {left:Lit→Bool} {cnt:Nat} {v12 v18 v':Value} {out ch:List Nat} {k:Nat} (h:L5 w2 wx g c R2 m n0 D left cnt v12 v18 out ch) (hm:m < w2.heap.size) (hgm:w2.heap.size≤R2)
  (hq:QRow w' (R2+1) v' (out ++ [k])) (hb:∀ i,i < wx.heap.size→v12.ownBlock≠some i→w'.heap[i]?=wx.heap[i]?) (hos:w'.os=wx.os) (ht:w'.tape=wx.tape) (ho:w'.output=wx.output) (hs:wx.heap.size≤w'.heap.size) (hl:v'.ownBlock=v12.ownBlock∨∀ b,v'.ownBlock=some b→wx.heap.size≤b) :
  L5 w2 w' g c R2 m n0 D left cnt v' v18 (out ++ [k]) ch:=by
 have hlo:∀ b,v12.ownBlock=some b→R2+1≤b∧b < wx.heap.size:=fun b hb=>World.ownsRow.lt h.qo b hb
 have hlc:∀ b,v18.ownBlock=some b→R2+1≤b∧b < wx.heap.size:=fun b hb=>World.ownsRow.lt h.qc b hb
 have hl':∀ b,v'.ownBlock=some b→R2+1≤b∧b < w'.heap.size:=fun b hb=>World.ownsRow.lt hq b hb
 have hbm:m < wx.heap.size:=by have:=h.sz;omega
 refine⟨ranges_block h.rg (hb m hbm (fun e=>by have:=hlo m e;omega)) (hb R2 h.sz (fun e=>by have:=hlo R2 e;omega)),hq,own_block h.qc (fun q hq=>hb q (hlc q hq).2 (fun e=>h.ap q e hq)),fun b h1 h2=>?_,?_,⟨hos.trans h.bl.os,ht.trans h.bl.tape,ho.trans h.bl.output,Nat.le_trans h.bl.size hs,fun i hi=>(hb i (by have:=h.sz;omega) (fun e=>by have:=hlo i e;omega)).trans (h.bl.block i hi)⟩,Nat.lt_of_lt_of_le h.sz hs⟩
 ·rcases hl with e|e
  ·rw[e] at h1;exact h.ap b h1 h2
  ·have:=e b h1;have:=(hlc b h2).2;omega
 ·refine h.fd.turn (fun i hi hx=>hb i hi (fun e=>hx (.inr (.inr (.inl e))))) hs (fun b hx=>?_)
  rcases hx with hx|hx|hx|hx
  ·exact⟨.inl (.inl hx),by have:=h.fd.lt;omega⟩
  ·exact⟨.inl (.inr (.inl hx)),by have:=h.sz;omega⟩
  ·rcases hl with e|e
   ·exact⟨.inl (.inr (.inr (.inl (by rw[←e];exact hx)))),(hl' b hx).2⟩
   ·exact⟨.inr (e b hx),(hl' b hx).2⟩
  ·exact⟨.inl (.inr (.inr (.inr hx))),by have:=(hlc b hx).2;omega⟩
theorem OutOk.len {n:Int} {l:List Rep} {G:ByteArray→List Nat} {left:Lit→Bool} {out:List Nat} (h:OutOk n l G left out) (hG:∀ s,(rsOf l).IsG s (G s)):out.length≤l.length:=
 Bfs.nodup_le h.nd fun i hi=>by
  obtain⟨s,_,_,h3⟩:=(h.mem i).1 hi
  exact ((hG s).mem.1 (badL_sub h3)).1
def badTo (ch T:List Nat) (j:Nat):List Nat:=((List.range j).filter (fun q=>!ch.contains q)).map (fun q=>T.getD q 0)
theorem badTo_yes {ch T:List Nat} {j:Nat} (h:j∈ch):badTo ch T (j+1)=badTo ch T j:=by
 unfold badTo
 rw[List.range_succ,List.filter_append,List.filter_cons,List.filter_nil,List.contains_iff_mem.2 h]
 simp
theorem badTo_no {ch T:List Nat} {j:Nat} (h:j ∉ ch) (hj:j < T.length):badTo ch T (j+1)=badTo ch T j ++ [T[j]]:=by
 unfold badTo
 have hc:ch.contains j=false:=by
  cases hx:ch.contains j with
  |false=>rfl
  |true=>exact absurd (List.contains_iff_mem.1 hx) h
 rw[List.range_succ,List.filter_append,List.filter_cons,List.filter_nil,hc,List.map_append]
 simp only[Bool.not_false,if_true,List.map_cons,List.map_nil]
 rw[getD_nat hj]
theorem badTo_len (ch T:List Nat) (j:Nat):(badTo ch T j).length≤j:=by
 unfold badTo
 rw[List.length_map]
 have:=List.length_filter_le (fun q=>!ch.contains q) (List.range j)
 rw[List.length_range] at this
 exact this
theorem not_dup {l:List Rep} {G:ByteArray→List Nat} (hG:∀ s,(rsOf l).IsG s (G s)) (h:∀ s,G s≠[]→∀ j (hj:j+1 < (G s).length),(rsOf l).tm (G s)[j]≠(rsOf l).tm (G s)[j+1]):¬ (rsOf l).Dup:=by
 rintro⟨i,k,h1,h2,h3,h4,h5,h6⟩
 have hi:i∈G ((rsOf l).nm i):=(hG _).mem.2 ⟨h2,h3,rfl⟩
 have hk:k∈G ((rsOf l).nm i):=(hG _).mem.2 ⟨by omega,h4,h5.symm⟩
 exact (hG _).adj (h _ (fun e=>by rw[e] at hi;cases hi)) i hi k hk (by omega) h6
theorem Suspects_any (n:Int) (p:Option Addr) (cap M:Nat) (l:List Rep) (hM:l.length=M) (hM30:M≤30) (hN:∀ r∈l,r.name.size≤maxLen) (w:World) (hT:HasTab w) (hV:VecR w p l) (hpb:∀ a,p=some a→0 < l.length→a.block < w.heap.size) :
  Calls Tryz.prog 16 #[.slice p M cap,.int .i64 n] w fun e w'=>∃ v,e=.returned (.tuple #[v,.int .i64 (suE n l)])∧RdI w' v (natI (suL n l))∧Below w.heap.size w w':=by
 have HM:=zN hM
 have HN:=zN hN
 have HV:=zN hV
 have HT:=zN hT
 have HPB:=zN hpb
 have hB0:=zN (zBr w.heap.size w)
 have hT0:=hT.lt
 clear hM hN hV hT hpb
 go_enter Tryz.func16,Tryz.ntmps16
 go_wp2_with fail
 refine (hopping_any n w).mono ?_
 rintro e w1' ⟨rfl,rfl⟩
 cases hh:hopB n
 ·obtain⟨e1,e2⟩:=suE_no (n:=n) (l:=l) (fun e=>by rw[hh] at e;cases e.1)
  have HE:=zN (And.intro e1 e2)
  clear e1 e2
  go_wp2
  go_ret2
  refine⟨.slice none 0 0,?_,?_,hB0.out⟩
  ·rw[HE.out.1];rfl
  ·rw[HE.out.2];exact RdI.nil _
 obtain⟨hn0,hn1⟩:0≤n∧n≤1000:=by unfold hopB at hh;exact of_decide_eq_true hh
 have HH:=zN hh
 clear hh
 go_wp2_with fail
 refine (contains_rep p l cap M w HM.out HV.out (by omega) 40 (fun r=>movB r && !decide (ValR r)) (enters_of Tryz.func40 (by kernel_rfl) rfl) (fun x hx w' hb=>susp1_any x ?_ w')).mono ?_
 ·obtain⟨j,hj,rfl⟩:=List.getElem_of_mem hx
  obtain⟨b,o,_,_,hc⟩:=HV.out.cell (by omega)
  exact (hc j hj).rd
 rintro e w1 ⟨rfl,hb1⟩
 rw[any_badM]
 have HB1:=zN hb1
 clear hb1
 by_cases hv:¬ MovV l
 ·rw[zDf hv]
  obtain⟨e1,e2⟩:=suE_no (n:=n) (l:=l) (fun e=>hv e.2)
  have HE:=zN (And.intro e1 e2)
  clear e1 e2 hv
  go_wp2
  go_ret2
  refine⟨.slice none 0 0,?_,?_,HB1.out⟩
  ·rw[HE.out.1];rfl
  ·rw[HE.out.2];exact RdI.nil _
 replace hv:=Decidable.not_not.1 hv
 rw[zDt hv]
 have HVL:=zN hv
 clear hv
 rw[show (!true)=false from rfl]
 go_wp2_with fail
 refine (names_any p cap M l HM.out hM30 HN.out HVL.out w1 (HV.out.below HB1.out)).mono ?_
 rintro e w2 ⟨m,G,rfl,⟨hG,base,n0,B,C,D,hn30,hgd⟩,hm,hb2⟩
 have HG:=zN hG
 have HB2:=zN (HB1.out.trans (hb2.mono HB1.out.size))
 have hml:m < w2.heap.size:=hgd.own.lt
 have HGD:=zN hgd
 have hown:=hgd.own
 clear hG hb2 hgd
 go_wp2_with (first|(at_range;refine wpList_range_own _ rfl _ 71 rfl 9 23 lawS Tryz.underlying71 rowEl m n0 D rfl hown ?_;intro w3 hrg3 hg3 hs3)|go_in)
 go_frame
 obtain⟨R,hR⟩:∃ R,R=w2.heap.size:=⟨_,rfl⟩
 have hb3:Below w2.heap.size w2 w3:=⟨hg3.os,hg3.tape,hg3.output,hg3.size,fun q hq=>hg3.block q hq (by simp)⟩
 have HB3:=zN hb3
 have hs3l:w2.heap.size≤w3.heap.size:=hb3.size
 rw[←hR] at hrg3 ⊢
 have HRG:=zN hrg3
 have HR:=zN hR
 clear hown hrg3 hg3 hs3 hR hb3
 go_loopw [7] (fun v7 wx=>∃ (left:Lit→Bool) (cnt:Nat),v7=.bool false∧wx.ranges Tryz.prog 9 rowEl m R n0 D left cnt∧Hid (∀ s,G s≠[]→left (keyS s)=false→∀ j (hj:j+1 < (G s).length),(rsOf l).tm (G s)[j]≠(rsOf l).tm (G s)[j+1])∧Below w2.heap.size w2 wx) (fun _ wx=>wx.rangeLeft m R)
 case atStart=>exact⟨_,_,rfl,HRG.out,zN (fun s hs hl=>by rw[(HGD.out.has s).2 hs] at hl;cases hl),HB3.out⟩
 case round=>
  clear HRG HB3 hs3l
  obtain⟨left,cnt,rfl,hrg,HS,hb⟩:=hrel
  have HRG:=zN hrg
  go_wp2_with (first|(at_next;refine wpList_next_ranges _ rfl _ rfl 9 lawS rowEl Value.string (fun v:Value=>v) (fun key kl h=>by obtain⟨s,h1,_⟩:=keyS_inv h;exact⟨s,h1⟩) (fun v y _=>⟨v,rfl⟩) m R n0 D left cnt rfl hrg ?_ ?_)|go_in)
  ·intro hc0 hl0
   have HND:Hid (¬ (rsOf l).Dup):=zN (not_dup HG.out (fun s hs=>HS.out s hs (hl0 _)))
   obtain⟨e1,e2⟩:=suE_ok (n:=n) (l:=l) ⟨HH.out,HVL.out⟩ HND.out
   have HE:=zN (And.intro e1 e2)
   have hba:Below wr.heap.size wr (wr.alloc (.cells #[.pointer none,.map none] 69)):=(zBr _ _).alloc (Nat.le_refl _) _
   have HBA:=zN (hb.trans (hba.mono hb.size))
   have hown:=(HGD.out.bl HBA.out).own
   have hFN:=FieldAt.new wr
   have hRl:=hrg.lt
   have hR0:=HR.out
   have hbz:=hb.size
   clear hb hba hrg hc0 HRG e1 e2
   go_wp2_with (first|(at_range;refine wpList_range_own _ rfl _ 71 rfl 9 23 lawS Tryz.underlying71 rowEl m n0 D rfl hown ?_;intro w6 hrg6 hg6 hs6)|go_in)
   go_frame
   obtain⟨g,hg⟩:∃ g,g=wr.heap.size:=⟨_,rfl⟩
   have hwsz:(wr.alloc (.cells #[.pointer none,.map none] 69)).heap.size=g+1:=by rw[hg];simp
   rw[hwsz] at hrg6 hs6 ⊢
   rw[←hg] at hFN ⊢
   have hb6:Below (wr.alloc (.cells #[.pointer none,.map none] 69)).heap.size (wr.alloc (.cells #[.pointer none,.map none] 69)) w6:=⟨hg6.os,hg6.tape,hg6.output,hg6.size,fun q hq=>hg6.block q hq (by simp)⟩
   have HL3:Hid (L3 w2 w6 g 0 (g+1) m n0 D (Maps.has D) (Maps.size D) (.slice none 0 0) []):=zN ⟨hrg6,QRow.nil _ _,hFN.below hb6 (fun b hb=>by
    rcases hb with h|h|h
    ·exact⟨.inl h,by omega⟩
    ·exact⟨.inr (by omega),by omega⟩
    ·cases h),HBA.out.trans (hb6.mono HBA.out.size),by omega⟩
   have hszD:Maps.size D≤n0:=hown.size_le
   have hmg:m < g:=by omega
   have hwg:w2.heap.size≤g:=by omega
   clear hown hrg6 hg6 hs6 hb6 hFN hRl hR0 hwsz HBA hg hbz
   go_loopw [12] (fun v12 wx=>∃ (out:List Nat) (left:Lit→Bool) (cnt c:Nat),L3 w2 wx g c (g+1) m n0 D left cnt v12 out∧Hid (OutOk n l G left out)∧c+930*cnt≤27900) (fun _ wx=>wx.rangeLeft m (g+1))
   case atStart=>exact⟨[],_,_,0,HL3.out,zN (OutOk.start (fun s hs=>(HGD.out.has s).2 hs)),by omega⟩
   case round=>
    clear HL3 hszD
    obtain⟨out,left,cnt,c,hl3,HOK,hcc⟩:=hrel
    have HL3:=zN hl3
    have hrg:=hl3.rg
    have hol3:out.length≤M:=by rw[←HM.out];exact HOK.out.len HG.out
    obtain⟨po,co,rfl,_⟩:=own_slice hl3.qo
    clear hl3
    go_wp2_with (first|(at_next;refine wpList_next_ranges _ rfl _ rfl 9 lawS rowEl Value.string (fun v:Value=>v) (fun key kl h=>by obtain⟨s,h1,_⟩:=keyS_inv h;exact⟨s,h1⟩) (fun v y _=>⟨v,rfl⟩) m (g+1) n0 D left cnt rfl hrg ?_ ?_)|go_in)
    ·intro hc0 hl0
     have hperm:=HOK.out.done HG.out HND.out hl0
     have hpl:=hperm.length_eq
     obtain⟨p',cap',b,hv12,hcap,hbb,hpp,hints⟩:=HL3.out.qo.ints
     simp only[Value.slice.injEq,true_and] at hv12
     obtain⟨rfl,rfl⟩:=hv12
     have hol:out.length≤M:=by rw[hpl,←HM.out];exact (rsOf l).susp_len _
     have HSO:=zN (sortInts_any b 0 co po (natI out) wr (fun h=>hpp (by rw[natI_len] at h;exact h)) hints (by rw[natI_len];omega))
     have hse:sorted (natI out)=natI ((rsOf l).susp (relP n l)):=sorted_of (hperm.map _) (natI_pair ((rsOf l).susp_asc _))
     have HSE:=zN hse
     have HPL:=zN hpl
     have HCP:=zN hcap
     have HPP:=zN hpp
     have hrs:=HL3.out.bl.size
     rw[natI_len] at HSO
     clear hperm hpl hcap hpp hints hse hl0 hrg
     go_wp2_with fail
     refine HSO.out.mono ?_
     rintro e w9 ⟨rfl,hg9,hi9⟩
     rw[HSE.out] at hi9
     have HRES:Hid (RdI w9 (.slice po out.length co) (natI ((rsOf l).susp (relP n l)))):=zN ⟨po,co,by rw[natI_len,←HPL.out],by rw[natI_len,←HPL.out];exact HCP.out,b,0,fun h0=>HPP.out (by rw[natI_len,←HPL.out] at h0;exact h0),fun j hj=>(hi9 j hj).1⟩
     have HB9:Hid (Below w.heap.size w w9):=zN (HB2.out.trans ((HL3.out.bl.grown hg9 hrs (fun j hj=>by injection hj with hj;omega)).mono HB2.out.size))
     clear hg9 hi9 HSO
     go_wp2
     go_ret2
     refine⟨.slice po out.length co,?_,?_,HB9.out⟩
     ·rw[HE.out.1];rfl
     ·rw[HE.out.2];exact HRES.out
    ·intro x cv kl y ps w7 cnt7 hkey hlk hv hat hrg7 hlt7 hg7 hsq7 hen
     obtain⟨s,hs1,rfl,hxs⟩:=keyS_inv hkey
     obtain rfl:x=s:=by injection hs1
     clear hs1 hkey
     have hhx:Maps.has D (keyS x)=true:=has_of_at hat
     have hgx:G x≠[]:=(HGD.out.has x).1 hhx
     have hv2:rowEl cv=some (.slice [.lit (.int .i64 (B x)),.lit (.int .i64 (G x).length),.lit (.int .i64 (C x))] [],ps):=by
      rw[hv,←HGD.out.at' x hgx .nil,hat .nil]
     obtain rfl:=rowEl_inv hv2
     have hlen:=(HG.out x).len
     have HL7:=zN (HL3.out.next (by omega) hrg7 hg7)
     have HOK7:=zN (HOK.out.step HG.out hgx hxs hlk)
     have hms:w7.rangeLeft m (g+1) < wr.rangeLeft m (g+1):=by rw[hrg7.left_eq,HL3.out.rg.left_eq];exact hlt7
     obtain⟨T,hTe⟩:∃ T,T=G x:=⟨_,rfl⟩
     have HTE:=zN hTe
     rw[←hTe] at hen hlen HOK7 ⊢
     have hlen2:T.length≤M:=by rw[←HM.out];exact hlen
     have HIS:=zN (HG.out x)
     rw[←hTe] at HIS
     have hbx:=World.ownsRow.lt (HGD.out.rows x hgx) _ rfl
     have HROW:Hid (w2.ownsRow base 3 1 (.slice (some ⟨B x,0,none⟩) T.length (C x)) T.length (qV T)):=zN (by rw[hTe];exact HGD.out.rows x hgx)
     have hs7b:=HL7.out.sz
     clear hv2 hv hat hhx hgx hlk hrg hrg7 hg7 hTe hlen hsq7
     go_wp2
     go_step3
     go_wp2
     go_loopw [15,79] (fun v15 v79 wx=>∃ (j:Nat),j≤T.length∧v79=.int .i64 (j:Int)∧RepRow wx w7.heap.size v15 (partL l (T.take j))∧Below w7.heap.size w7 wx) (fun _ v79 _=>T.length-(intOf v79).toNat)
     case atStart=>exact⟨0,Nat.zero_le _,rfl,RepRow.nil _ _,zBr _ _⟩
     case round=>
      obtain⟨j,hj,rfl,hrow,hb⟩:=hrel
      by_cases hjl:j < T.length
      ·have hdj:decide ((j:Int) < (T.length:Int))=true:=zDt (by omega)
       have hqr:=own_bl (own_bl HROW.out HL7.out.bl) hb
       obtain⟨g',c',hge,_,_,_,hcell⟩:=own_cells hqr (by omega)
       simp only[Value.slice.injEq,Option.some.injEq,Addr.mk.injEq] at hge
       obtain⟨⟨rfl,_⟩,_,_⟩:=hge
       have ct1:=hcell j hjl
       unfold qV at ct1
       rw[List.getElem?_map,List.getElem?_eq_getElem hjl] at ct1
       simp only[Option.map_some] at ct1
       obtain⟨a,ha⟩:∃ a,a=T[j]:=⟨_,rfl⟩
       rw[←ha] at ct1
       have hma:=HIS.out.mem.1 (ha ▸ List.getElem_mem hjl:a∈T)
       have hal:a < l.length:=hma.1
       have hV2:=((HV.out.below HB2.out).below HL7.out.bl).below hb
       obtain⟨bb,o,rfl,_,hrp⟩:=hV2.cell (by omega)
       have hra:=hrp a hal
       rw[←getD_rep hal] at hra
       have HPT:Hid (partL l (T.take (j+1))=partL l (T.take j) ++ [l.getD a rep0]):=zN (by
        unfold partL
        rw[List.take_succ_eq_append_getElem hjl,List.map_append,ha];rfl)
       have hpl:(partL l (T.take j)).length=j:=by unfold partL;rw[List.length_map,List.length_take];omega
       obtain⟨pl,hple⟩:∃ pl,pl=partL l (T.take j):=⟨_,rfl⟩
       rw[←hple] at hrow hpl HPT
       have HPL:=zN hpl
       obtain⟨r,hr⟩:∃ r,r=l.getD a rep0:=⟨_,rfl⟩
       rw[←hr] at hra HPT
       obtain⟨q,nq,cq,hrd⟩:=hra.rd
       obtain⟨c0,c1,c2,c3,c4,c5,c6,c7,_⟩:=hra
       rw[hrd] at c7
       have hrpc:rpc r=[.int .i64 r.kind,.string r.name,.int .i64 r.time,.int .i64 r.f,.int .i64 r.a,.int .i64 r.b,.int .i64 r.c,.slice q nq cq]:=by unfold rpc;rw[hrd]
       have HRPC:=zN hrpc
       obtain⟨pp,cp,rfl,hcp⟩:=own_slice hrow
       have hown:(wr.alloc (.cells #[.int .i64 r.kind,.string r.name,.int .i64 r.time,.int .i64 r.f,.int .i64 r.a,.int .i64 r.b,.int .i64 r.c,.slice q nq cq] 35)).ownsRow w7.heap.size 35 8 (.slice pp pl.length cp) pl.length (pl.flatMap rpc):=World.ownsRow.alloc hrow _
       have ha0:(0:Int)≤(a:Int):=by omega
       have ha1:(a:Int) < (M:Int):=by have:=HM.out;omega
       have hj0:(0:Int)≤(j:Int):=by omega
       have hjI:(j:Int) < (T.length:Int):=by omega
       have hpl30:pl.length≤30:=by omega
       have hsz:=hb.size
       have HB:=zN hb
       clear hqr hcell ha hma hV2 hrp hple hr hrd hrpc hpl hb hrow hal
       go_wp2_with (refine RX.wpl_apq (by rfl) elRep _ _ (by rfl) w7.heap.size _ _ _ hown (by rfl) wr.heap.size _ 1 (by rfl) (heap_alloc_new _ _) (by rfl) (by simp[Value.oneCell']) (by omega) (by omega) (by simp;omega) ?_;intro v' w8 hown2 hb8 hg8 hat8)
       have HR8:Hid (RepRow w8 w7.heap.size v' (pl ++ [r])):=zN (RepRow.snoc (by rw[HRPC.out];exact hown2))
       have HB8:Hid (Below w7.heap.size w7 w8):=zN ((HB.out.alloc hsz _).trans hb8)
       have HRR:Hid (RepRow w8 w7.heap.size v' (partL l (T.take (j+1)))):=zN (by rw[HPT.out];exact HR8.out)
       clear hown2 hb8 hg8 hat8 hown c0 c1 c2 c3 c4 c5 c6 c7 ct1
       go_wp2
       go_roundw
       case rel=>exact⟨_,_,.int .i64 ((j+1:Nat):Int),⟨j+1,by omega,rfl,HRR.out,HB8.out⟩,rfl,rfl,by go_num⟩
       case measure=>simp[intOf]<;>omega
      ·obtain hje:j=T.length:=by omega
       have hdj:decide ((j:Int) < (T.length:Int))=false:=zDf (by omega)
       have hrow2:RepRow wr w7.heap.size u15 (partL l T):=by rw[hje,List.take_length] at hrow;exact hrow
       have hpm:∀ r∈partL l T,RdOk r∧ValR r:=fun r hr=>by
        obtain⟨a,ha,rfl⟩:=List.mem_map.1 hr
        obtain⟨h1,h2,_⟩:=HIS.out.mem.1 ha
        have h1':a < l.length:=h1
        have h2':movB (l.getD a rep0)=true:=h2
        rw[getD_rep h1'] at h2' ⊢
        obtain⟨b',o',_,_,hc'⟩:=HV.out.cell (by omega)
        exact⟨(hc' a h1').rd,HVL.out _ (List.getElem_mem h1') h2'⟩
       have hpl:(partL l T).length=T.length:=by unfold partL;rw[List.length_map]
       obtain⟨pp,cp,rfl,hcp,hVp,hpbk⟩:=hrow2.form (fun r hr=>(hpm r hr).1)
       have hF7:=HL7.out.fd.below hb (X':=fun b=>(b < g∨b=g+1∨(Value.slice po out.length co).ownBlock=some b)∨(w7.heap.size≤b∧b < wr.heap.size)) (fun b hx=>by
        rcases hx with h|⟨h1,h2⟩
        ·exact⟨.inl h,Nat.lt_of_lt_of_le (HL7.out.fd.xl b h) hb.size⟩
        ·exact⟨.inr h1,h2⟩)
       have hTw:HasTab wr:=((HT.out.below HB2.out).below HL7.out.bl).below hb
       have HCH:=zN (gchain_any g c _ n hn0 hn1 pp cp T.length (partL l T) hpl (fun r hr=>(hpm r hr).2) (by omega) wr hTw (.inl (.inl (by have:=HB2.out.size;omega))) hVp (fun a ha h0=>by
        obtain⟨b',e',h1,h2⟩:=hpbk (by rw[hpl];exact h0)
        rw[ha] at e'
        have e2:a=⟨b',0,none⟩:=by injection e'
        rw[e2];exact .inr ⟨h1,h2⟩) hF7 (by omega))
       have HB:=zN hb
       have hws:=hb.size
       rw[part_chain] at HCH
       obtain⟨ch,hch⟩:∃ ch,ch=chainP (fun a b=>relP n l (T.getD a 0) (T.getD b 0)) T.length:=⟨_,rfl⟩
       have hcl:ch.length≤T.length:=by rw[hch];exact chain_len _ _
       rw[←hch] at HCH
       have HCHE:=zN hch
       rw[hpl]
       clear hrow hrow2 hpm hpl hcp hVp hpbk hF7 hTw hb hch
       go_wp2_with fail
       refine HCH.out.mono ?_
       rintro e w9 ⟨v18,rfl,hq18,hf9,hk9⟩
       have hlo:∀ b,(Value.slice po out.length co).ownBlock=some b→g+1+1≤b∧b < w7.heap.size:=fun b hb=>World.ownsRow.lt HL7.out.qo b hb
       have hkb:∀ i,(i < g∨i=g+1∨(Value.slice po out.length co).ownBlock=some i)→i < w7.heap.size→w9.heap[i]?=w7.heap[i]?:=fun i hx hi=>(hk9.block i (.inl hx)).trans (HB.out.block i hi)
       have HL5:Hid (L5 w2 w9 g (c+930) (g+1) m n0 D _ cnt7 (.slice po out.length co) v18 out ch):=zN
        ⟨ranges_block HL7.out.rg (hkb m (.inl hmg) (by omega)) (hkb (g+1) (.inr (.inl rfl)) hs7b),own_block HL7.out.qo (fun q hq=>hkb q (.inr (.inr hq)) (hlo q hq).2),own_mono hq18 (by omega),fun b h1 h2=>by
         have:=(hlo b h1).2
         have:=(World.ownsRow.lt hq18 b h2).1
         omega,hf9.less (fun b hx=>by
          rcases hx with h|h|h|h
          ·exact .inl (.inl (.inl h))
          ·exact .inl (.inl (.inr (.inl h)))
          ·exact .inl (.inl (.inr (.inr h)))
          ·exact .inr h),⟨hk9.os.trans (HB.out.os.trans HL7.out.bl.os),hk9.tape.trans (HB.out.tape.trans HL7.out.bl.tape),hk9.output.trans (HB.out.output.trans HL7.out.bl.output),Nat.le_trans HL7.out.bl.size (Nat.le_trans HB.out.size hk9.size),fun i hi=>(hkb i (.inl (by omega)) (by have:=HL7.out.bl.size;omega)).trans (HL7.out.bl.block i hi)⟩,by have:=hk9.size;omega⟩
       clear hq18 hf9 hk9 hlo hkb HCH
       go_wp2
       go_step3
       go_wp2
       go_loopw [12,97] (fun v12 v97 wx=>∃ (j:Nat),j≤T.length∧v97=.int .i64 (j:Int)∧L5 w2 wx g (c+930) (g+1) m n0 D (fun z=>left z && !z.sameKey (keyS x)) cnt7 v12 v18 (out ++ badTo ch T j) ch) (fun _ v97 _=>T.length-(intOf v97).toNat)
       case atStart=>exact⟨0,Nat.zero_le _,rfl,by show L5 _ _ _ _ _ _ _ _ _ _ _ _ (out ++ []) _;rw[List.append_nil];exact HL5.out⟩
       case round=>
        clear HL5
        obtain⟨j,hj,rfl,hl5⟩:=hrel
        have hob:(out ++ badTo ch T j).length≤60:=by
         rw[List.length_append]
         have:=badTo_len ch T j
         omega
        obtain⟨po5,co5,rfl,hco5⟩:=own_slice hl5.qo
        obtain⟨pc5,cc5,rfl,hcc5⟩:=own_slice hl5.qc
        by_cases hjl:j < T.length
        ·have hdj:decide ((j:Int) < (T.length:Int))=true:=zDt (by omega)
         have hqr:=own_bl HROW.out hl5.bl
         obtain⟨g',c',hge,_,_,_,hcell⟩:=own_cells hqr (by omega)
         simp only[Value.slice.injEq,Option.some.injEq,Addr.mk.injEq] at hge
         obtain⟨⟨rfl,_⟩,_,_⟩:=hge
         have ct1:=hcell j hjl
         unfold qV at ct1
         rw[List.getElem?_map,List.getElem?_eq_getElem hjl] at ct1
         simp only[Option.map_some] at ct1
         obtain⟨a,ha⟩:∃ a,a=T[j]:=⟨_,rfl⟩
         rw[←ha] at ct1
         have HA:=zN ha
         have hj0:(0:Int)≤(j:Int):=by omega
         have hjI:(j:Int) < (T.length:Int):=by omega
         have HL5:=zN hl5
         have hch30:ch.length≤30:=by omega
         clear hqr hcell ha hl5
         generalize wr=W5 at *
         go_wp2
         go_loopw [104] (fun v104 wx=>∃ (q:Nat),q≤ch.length∧v104=.int .i64 (q:Int)∧Hid (∀ r (hr:r < ch.length),r < q→ch[r]≠j)∧wx=W5) (fun v104 _=>ch.length-(intOf v104).toNat)
         case atStart=>exact⟨0,Nat.zero_le _,rfl,zN (fun r hr h=>by omega),rfl⟩
         case round=>
          obtain⟨q,hq,rfl,HQ,rfl⟩:=hrel
          by_cases hql:q < ch.length
          ·have hdq:decide ((q:Int) < (ch.length:Int))=true:=zDt (by omega)
           obtain⟨g',c',hge,_,_,_,hcell⟩:=own_cells HL5.out.qc (by omega)
           simp only[Value.slice.injEq,true_and] at hge
           obtain⟨rfl,_⟩:=hge
           have cq1:=hcell q hql
           unfold qV at cq1
           rw[List.getElem?_map,List.getElem?_eq_getElem hql] at cq1
           simp only[Option.map_some] at cq1
           obtain⟨e,he⟩:∃ e,e=ch[q]:=⟨_,rfl⟩
           rw[←he] at cq1
           have HE2:=zN he
           have hq0:(0:Int)≤(q:Int):=by omega
           have hqI:(q:Int) < (ch.length:Int):=by omega
           clear hcell he
           by_cases hej:e=j
           ·have hde:((e:Int) == (j:Int))=true:=by rw[beq_iff_eq];omega
            have HBT:Hid (badTo ch T (j+1)=badTo ch T j):=zN (badTo_yes (by rw[←hej,HE2.out];exact List.getElem_mem hql))
            go_wp2
            go_roundw
            case rel=>exact⟨j+1,by omega,by go_num,by rw[HBT.out];exact HL5.out⟩
            case measure=>simp[intOf]<;>omega
           ·have hde:((e:Int) == (j:Int))=false:=by rw[beq_eq_false_iff_ne];omega
            go_wp2
            go_roundw
            case rel=>exact⟨q+1,by omega,by go_num,zN (fun r hr h=>by
             by_cases e':r=q
             ·subst e';rw[←HE2.out];exact hej
             ·exact HQ.out r hr (by omega)),by first|rfl|trivial⟩
            case measure=>simp[intOf]<;>omega
          ·have hdq:decide ((q:Int) < (ch.length:Int))=false:=zDf (by omega)
           have HBT:Hid (badTo ch T (j+1)=badTo ch T j ++ [T[j]]):=zN (badTo_no (fun hm=>by
            obtain⟨r,hr,e⟩:=List.getElem_of_mem hm
            exact HQ.out r hr (by omega) e) hjl)
           obtain⟨ob,hobe⟩:∃ ob,ob=out ++ badTo ch T j:=⟨_,rfl⟩
           have HOB:=zN hobe
           rw[←hobe] at HL5 hob hco5 ⊢
           have hown:(wr.alloc (.cells #[.int .i64 (a:Int)] 3)).ownsRow (g+1+1) 3 1 (.slice po5 ob.length co5) ob.length (qV ob):=World.ownsRow.alloc HL5.out.qo _
           have hsz5:=HL5.out.sz
           have HX5:Hid (out ++ badTo ch T (j+1)=ob ++ [a]):=zN (by rw[HBT.out,←List.append_assoc,←hobe,HA.out])
           clear hobe
           go_wp2_with (refine RX.wpl_apq (by rfl) elIn _ _ (by rfl) (g+1+1) _ _ _ hown (by rfl) wr.heap.size _ 1 (by rfl) (heap_alloc_new _ _) (by rfl) (by simp[Value.oneCell']) (by omega) (by omega) (by simp;omega) ?_;intro v' w10 hown2 hb10 hg10 hat10)
           have hal:Below wr.heap.size wr (wr.alloc (.cells #[.int .i64 (a:Int)] 3)):=(zBr _ _).alloc (Nat.le_refl _) _
           have HL10:Hid (L5 w2 w10 g (c+930) (g+1) m n0 D (fun z=>left z && !z.sameKey (keyS x)) cnt7 v' (.slice pc5 ch.length cc5) (ob ++ [a]) ch):=zN (HL5.out.push (by omega) (by omega) (QRow.snoc hown2) (fun i hi hne=>(hg10.block i (by simp;omega) (fun e=>hne e.symm)).trans (hal.block i hi)) hg10.os hg10.tape hg10.output (Nat.le_trans hal.size hg10.size) (hat10.imp id (fun h b hb=>by
            rw[h] at hb
            injection hb with hb
            rw[←hb];simp)))
           clear hown hown2 hb10 hg10 hat10 hal
           go_wp2
           go_roundw
           case rel=>exact⟨_,_,_,_,.int .i64 ((j+1:Nat):Int),⟨j+1,by omega,rfl,by rw[HX5.out];exact HL10.out⟩,rfl,rfl,rfl,rfl,by go_num⟩
           case measure=>simp[intOf]<;>omega
        ·have hje5:j=T.length:=by omega
         have hdj:decide ((j:Int) < (T.length:Int))=false:=zDf (by omega)
         have HBE:Hid (out ++ badTo ch T j=out ++ badL (relP n l) T):=zN (by
          rw[hje5,HCHE.out];rfl)
         have HL8:Hid (L3 w2 wr g (c+930) (g+1) m n0 D (fun z=>left z && !z.sameKey (keyS x)) cnt7 (.slice po5 (out ++ badTo ch T j).length co5) (out ++ badL (relP n l) T)):=zN (by
          rw[←HBE.out]
          exact⟨hl5.rg,hl5.qo,hl5.fd.less (fun b hx=>by
           rcases hx with h|h|h
           ·exact .inl h
           ·exact .inr (.inl h)
           ·exact .inr (.inr (.inl h))),hl5.bl,hl5.sz⟩)
         have hms8:wr.rangeLeft m (g+1)=w7.rangeLeft m (g+1):=by rw[hl5.rg.left_eq,HL7.out.rg.left_eq]
         clear hl5
         go_wp2
         go_roundw
         case rel=>
          repeat apply zEx
          refine⟨⟨_,_,cnt7,c+930,HL8.out,HOK7.out,by omega⟩,?_⟩
          and_intros<;>rfl
         case measure=>rw[hms8];exact hms
  ·intro x c kl y ps w4 cnt4 hkey hlk hv hat hrg4 hlt4 hg4 hs4 hen
   obtain⟨s,hs1,rfl,hxs⟩:=keyS_inv hkey
   obtain rfl:x=s:=by injection hs1
   clear hs1 hkey
   have hhx:Maps.has D (keyS x)=true:=has_of_at hat
   have hgx:G x≠[]:=(HGD.out.has x).1 hhx
   have hv2:rowEl c=some (.slice [.lit (.int .i64 (B x)),.lit (.int .i64 (G x).length),.lit (.int .i64 (C x))] [],ps):=by
    rw[hv,←HGD.out.at' x hgx .nil,hat .nil]
   obtain rfl:=rowEl_inv hv2
   have hbx:=World.ownsRow.lt (HGD.out.rows x hgx) _ rfl
   have hlen:=(HG.out x).len
   have hb4:Below w2.heap.size w2 w4:=hb.grown hg4 hb.size (fun j hj=>by injection hj with hj;have:=HR.out;omega)
   have HB4:=zN hb4
   obtain⟨T,hTe⟩:∃ T,T=G x:=⟨_,rfl⟩
   have HTE:=zN hTe
   rw[←hTe] at hen hlen ⊢
   have hlen2:T.length≤M:=by rw[←HM.out];exact hlen
   have HIS:=zN (HG.out x)
   rw[←hTe] at HIS
   have HBX:=zN hbx
   have HHX:=zN (And.intro hgx hlk)
   have HRG4:=zN hrg4
   have hms:w4.rangeLeft m R < wr.rangeLeft m R:=by rw[hrg4.left_eq,HRG.out.left_eq];exact hlt4
   clear hv2 hv hat hhx hgx hlk hbx hb4 hb hrg hrg4 hg4 hTe hlen
   go_wp2
   go_loopw [10] (fun v10 wx=>∃ (i:Nat),1≤i∧(i≤T.length∨i=1)∧v10=.int .i64 (i:Int)∧Hid (∀ j (hj:j+1 < T.length),j+1 < i→(rsOf l).tm T[j]≠(rsOf l).tm T[j+1])∧Below w4.heap.size w4 wx) (fun v10 _=>T.length-(intOf v10).toNat)
   case atStart=>exact⟨1,Nat.le_refl _,.inr rfl,rfl,zN (fun j hj h=>by omega),zBr _ _⟩
   case round=>
    obtain⟨i,hi1,hi2,rfl,HI,hb⟩:=hrel
    by_cases hi:i < T.length
    ·have hdi:decide ((i:Int) < (T.length:Int))=true:=zDt (by omega)
     obtain⟨j,rfl⟩:∃ j,i=j+1:=⟨i-1,by omega⟩
     have hrow:=own_bl (own_bl (HGD.out.rows x HHX.out.1) HB4.out) hb
     rw[←HTE.out] at hrow
     obtain⟨g',c',hge,_,_,_,hcell⟩:=own_cells hrow (by omega)
     simp only[Value.slice.injEq,Option.some.injEq,Addr.mk.injEq] at hge
     obtain⟨⟨rfl,_⟩,_,_⟩:=hge
     have ct1:=hcell j (by omega)
     have ct2:=hcell (j+1) hi
     unfold qV at ct1 ct2
     rw[List.getElem?_map,List.getElem?_eq_getElem (by omega)] at ct1
     rw[List.getElem?_map,List.getElem?_eq_getElem hi] at ct2
     simp only[Option.map_some] at ct1 ct2
     obtain⟨a,ha⟩:∃ a,a=T[j]'(by omega):=⟨_,rfl⟩
     obtain⟨b,hbe⟩:∃ b,b=T[j+1]:=⟨_,rfl⟩
     rw[←ha] at ct1
     rw[←hbe] at ct2
     have hma:=HIS.out.mem.1 (ha ▸ List.getElem_mem (by omega):a∈T)
     have hmb:=HIS.out.mem.1 (hbe ▸ List.getElem_mem hi:b∈T)
     have hal:a < l.length:=hma.1
     have hbl:b < l.length:=hmb.1
     have HMAB:=zN (And.intro hma hmb)
     have HAB:=zN (And.intro ha hbe)
     have hV2:=((HV.out.below HB2.out).below HB4.out).below hb
     obtain⟨bb,o,rfl,_,hrp⟩:=hV2.cell (by omega)
     have t1:=(hrp a hal).c2
     have t2:=(hrp b hbl).c2
     rw[←getD_rep hal] at t1
     rw[←getD_rep hbl] at t2
     obtain⟨ta,hta⟩:∃ t,t=(l.getD a rep0).time:=⟨_,rfl⟩
     obtain⟨tb,htb⟩:∃ t,t=(l.getD b rep0).time:=⟨_,rfl⟩
     rw[←hta] at t1
     rw[←htb] at t2
     have HTT:=zN (And.intro hta htb)
     have HB:=zN hb
     have hj0:(0:Int)≤(j:Int):=by omega
     have hj1:(j:Int) < (T.length:Int):=by omega
     have hj2:(j:Int)+1 < (T.length:Int):=by omega
     have ha0:(0:Int)≤(a:Int):=by omega
     have ha1:(a:Int) < (M:Int):=by have:=HM.out;omega
     have hb0:(0:Int)≤(b:Int):=by omega
     have hb1:(b:Int) < (M:Int):=by have:=HM.out;omega
     clear hrow hcell ha hbe hma hmb hrp hV2 hta htb hb hal hbl
     by_cases hte:ta=tb
     ·have hdt:(ta == tb)=true:=by rw[beq_iff_eq];exact hte
      have HDUP:Hid (rsOf l).Dup:=zN (by
       obtain⟨⟨a1,a2,a3⟩,b1,b2,b3⟩:=HMAB.out
       have hne:a≠b:=by
        rw[HAB.out.1,HAB.out.2]
        intro e
        have:=List.pairwise_iff_getElem.1 HIS.out.nodup j (j+1) (by omega) hi (by omega)
        exact this e
       have htt:(rsOf l).tm a=(rsOf l).tm b:=by show (l.getD a rep0).time=(l.getD b rep0).time;rw[←HTT.out.1,←HTT.out.2];exact hte
       rcases Nat.lt_or_gt_of_ne hne with h|h
       ·exact⟨b,a,h,b1,b2,a2,b3.trans a3.symm,htt.symm⟩
       ·exact⟨a,b,h,a1,a2,b2,a3.trans b3.symm,htt⟩)
      obtain⟨e1,e2⟩:=suE_dup (n:=n) (l:=l) ⟨HH.out,HVL.out⟩ HDUP.out
      have HE:=zN (And.intro e1 e2)
      clear e1 e2 hte
      go_wp2_with fail
      refine RX.region RX.fN (fun w'=>w'=_) (by kernel_rfl) (by kernel_rfl) rfl (fun OPS HO QR hQR=>?_)
      repeat (refine zeX (fun R hR=>?_);(first|refine zaX (by first|rfl|(rw[HO.out];rfl)) (by simp only[zA,zB,zC,zD];rfl) ?_|refine zbX (by first|rfl|(rw[HO.out];rfl)) rfl (by first|exact .inl rfl|exact .inr rfl) (by simp only[zE,zF,zG,zH];rfl) (by simp only[zA,zB,zC,zD];rfl) ?_|refine zcX (by first|rfl|(rw[HO.out];rfl)) rfl rfl (by simp only[zE,zF,zG,zH];rfl) (by simp only[zA,zB,zC,zD];rfl) ?_|(refine zdX (by first|rfl|(rw[HO.out];rfl)) rfl rfl rfl ?_;apply zEx;apply zEx;refine⟨fun w' hS K hK=>?_,?_,?_⟩;(focus (subst hS;go_wp2;exact hK _ _ (by simp only[zl,zG,zH];first|exact zf (by omega)|exact zg (by omega)|exact zh (by omega)|exact zi (by omega)|exact zj (by omega)|exact zk (by omega)|exact RX.bneB _|rfl) rfl));(focus (simp only[zA,zB,zC,zD];rfl))));refine hR _ _ ?_;clear hR R)
      refine RX.wpL_nil (hQR _ _ rfl ?_);clear hQR QR HO OPS
      go_wp2
      go_ret2
      refine⟨.slice none 0 0,?_,?_,HB2.out.trans ((HB4.out.trans (HB.out.drew.mono HB4.out.size)).mono HB2.out.size)⟩
      ·rw[HE.out.1];rfl
      ·rw[HE.out.2];exact RdI.nil _
     ·have hdt:(ta == tb)=false:=by rw[beq_eq_false_iff_ne];exact hte
      go_wp2_with fail
      refine RX.region RX.fN (fun w'=>w'=_) (by kernel_rfl) (by kernel_rfl) rfl (fun OPS HO QR hQR=>?_)
      repeat (refine zeX (fun R hR=>?_);(first|refine zaX (by first|rfl|(rw[HO.out];rfl)) (by simp only[zA,zB,zC,zD];rfl) ?_|refine zbX (by first|rfl|(rw[HO.out];rfl)) rfl (by first|exact .inl rfl|exact .inr rfl) (by simp only[zE,zF,zG,zH];rfl) (by simp only[zA,zB,zC,zD];rfl) ?_|refine zcX (by first|rfl|(rw[HO.out];rfl)) rfl rfl (by simp only[zE,zF,zG,zH];rfl) (by simp only[zA,zB,zC,zD];rfl) ?_|(refine zdX (by first|rfl|(rw[HO.out];rfl)) rfl rfl rfl ?_;apply zEx;apply zEx;refine⟨fun w' hS K hK=>?_,?_,?_⟩;(focus (subst hS;go_wp2;exact hK _ _ (by simp only[zl,zG,zH];first|exact zf (by omega)|exact zg (by omega)|exact zh (by omega)|exact zi (by omega)|exact zj (by omega)|exact zk (by omega)|exact RX.bneB _|rfl) rfl));(focus (simp only[zA,zB,zC,zD];rfl))));refine hR _ _ ?_;clear hR R)
      refine RX.wpL_nil (hQR _ _ rfl ?_);clear hQR QR HO OPS
      go_wp2
      go_roundw
      case rel=>exact⟨j+1+1,by omega,.inl (by omega),by go_num,zN (fun j' hj' hjk=>by
       by_cases e:j'=j
       ·subst e
        rw[←HAB.out.1,←HAB.out.2]
        show (l.getD a rep0).time≠(l.getD b rep0).time
        rw[←HTT.out.1,←HTT.out.2];exact hte
       ·exact HI.out j' hj' (by omega)),HB.out.drew⟩
      case measure=>simp[intOf]<;>omega
    ·have hdi:decide ((i:Int) < (T.length:Int))=false:=zDf (by omega)
     have hd30:decide ((T.length:Int) > 30)=false:=zDf (by omega)
     have HB:=zN hb
     have hmw:m < w4.heap.size:=by have:=HB4.out.size;omega
     have hRw:R < w4.heap.size:=HRG4.out.lt
     have HRG5:=zN (ranges_block HRG4.out (hb.block m hmw) (hb.block R hRw))
     have hms5:wr.rangeLeft m R=w4.rangeLeft m R:=by rw[HRG5.out.left_eq,HRG4.out.left_eq]
     clear hb
     go_wp2
     go_roundw
     case rel=>exact⟨_,cnt4,rfl,HRG5.out,zN (fun s hs hl=>by
      cases h1:left (keyS s) with
      |false=>exact HS.out s hs h1
      |true=>
       rw[h1,Bool.true_and,Bool.not_eq_false'] at hl
       obtain rfl:=keyS_inj (WideAt.sameKey_eq hl)
       intro j hj
       have e:=HTE.out
       subst e
       exact HI.out j hj (by omega)),HB4.out.trans (HB.out.mono HB4.out.size)⟩
     case measure=>rw[hms5];exact hms
def wtN (n k v:Nat):Nat:=wt ((nodesL n).getD k ⟨0,0,0,0⟩) v
theorem wtN_lat {n f i j v:Nat} (h1:1≤n) (h8:n≤8) (hf:f < 20) (hij:i+j≤n) (hv:v < 12):wtN n (atL n (lat n f i j)) v=wt (lat n f i j) v:=by
 obtain⟨_,hlt,hnode⟩:=atL_lat (hh_mul h1 h8) hf hij
 unfold wtN
 rw[List.getD_eq_getElem?_getD,List.getElem?_eq_getElem hlt,Option.getD_some,hnode,wt_normal (lat_ok (hh_mul h1 h8) hf hij) v hv]
theorem wtN_step {n x y v:Nat} (h1:1≤n) (h8:n≤8) (hv:v < 12) (h:y∈nbG n x):wtN n x v≤wtN n y v+hh n:=by
 obtain⟨e,he,hor⟩:=mem_next.1 ((mem_nbG h1 h8).1 h)
 obtain⟨f,i,j,k,l,hf,hij,hkl,hA,e1,e2⟩:=edge_lat h1 h8 he
 rcases hor with ⟨p1,p2⟩|⟨p1,p2⟩
 ·rw[e1,Int.toNat_natCast] at p1
  have p3:y=atL n (lat n f k l):=by omega
  rw[p1,p3,wtN_lat h1 h8 hf hij hv,wtN_lat h1 h8 hf hkl hv]
  exact wt_step hij hkl hA v
 ·rw[e2,Int.toNat_natCast] at p1
  have p3:y=atL n (lat n f i j):=by omega
  rw[p1,p3,wtN_lat h1 h8 hf hij hv,wtN_lat h1 h8 hf hkl hv]
  exact wt_step hkl hij hA.symm v
theorem wtN_walk {n a v:Nat} (h1:1≤n) (h8:n≤8) (hv:v < 12) {k b:Nat} (h:Bfs.Walk (nbG n) a k b):wtN n a v≤wtN n b v+k*hh n:=by
 induction h with
 |zero=>omega
 |succ hw hm ih=>
  have:=wtN_step h1 h8 hv hm
  rw[Nat.succ_mul]
  omega
def pA:Pl:=⟨0,840,0,0⟩
def pB:Pl:=⟨0,315,525,0⟩
theorem hh8:hh 8=105:=by decide
theorem pA_lat:pA=lat 8 0 8 0:=by decide
theorem pB_lat:pB=lat 8 0 3 5:=by decide
theorem pA_ok:pA.Ok:=⟨by decide,by decide⟩
theorem pB_ok:pB.Ok:=⟨by decide,by decide⟩
theorem pA_norm:normal pA=pA:=by decide +kernel
theorem pB_norm:normal pB=pB:=by decide +kernel
theorem near_lat {i j:Nat} (hij:i+j≤8) (h:locRaw 8 (lat 8 0 i j)=[(atL 8 (lat 8 0 i j),840)]):nearN (lat 8 0 i j)=atL 8 (lat 8 0 i j):=by
 have hl:IsLoc 8 (lat 8 0 i j) [(atL 8 (lat 8 0 i j),840)]:=⟨by rw[h],List.pairwise_singleton _ _⟩
 rw[←nearN_eq hl];rfl
theorem hop_AB:hop 8 (atL 8 pA) (atL 8 pB)=5:=by
 rw[pA_lat,pB_lat]
 have hn:=hh_mul (n:=8) (by omega) (by omega)
 have hlA:=(atL_lat (f:=0) (a:=8) (b:=0) hn (by omega) (by omega)).2.1
 have hlB:=(atL_lat (f:=0) (a:=3) (b:=5) hn (by omega) (by omega)).2.1
 have hex:=searched (n:=8) (by omega) (by omega) hlA
 have st:∀ i j,i+1+j≤8→atL 8 (lat 8 0 i (j+1))∈nbG 8 (atL 8 (lat 8 0 (i+1) j)):=fun i j h=>lat_adj (by omega) (by omega) (by omega) h (by omega) (.inr (.inr (.inr ⟨rfl,rfl⟩)))
 have hle:=(hop_facts (by omega) (by omega) hlA hex).1 5 (atL 8 (lat 8 0 3 5)) (.succ (.succ (.succ (.succ (.succ .zero (st 7 0 (by omega))) (st 6 1 (by omega))) (st 5 2 (by omega))) (st 4 3 (by omega))) (st 3 4 (by omega)))
 have hw:=wtN_walk (v:=0) (by omega) (by omega) (by omega) (hop_walk (by omega) (by omega) hlA hlB hex)
 rw[wtN_lat (by omega) (by omega) (by omega) (by omega) (by omega),wtN_lat (by omega) (by omega) (by omega) (by omega) (by omega),hh8] at hw
 rw[show wt (lat 8 0 8 0) 0=840 by decide,show wt (lat 8 0 3 5) 0=315 by decide] at hw
 have:=hle.1
 omega
theorem nearA:nearN pA=atL 8 pA:=by
 rw[pA_lat];exact near_lat (by omega) (locRaw_at (by decide))
theorem nearB:nearN pB=atL 8 pB:=by
 rw[pB_lat];exact near_lat (by omega) (locRaw_at (by decide))
theorem hopN_AB:hopN pA pB=5:=by rw[hopN_eq pA_ok,nearA,nearB];exact hop_AB
theorem hopN_BA:hopN pB pA=5:=by
 rw[hopN_eq pB_ok,nearA,nearB]
 have h1:=nearN_lt pA_ok
 have h2:=nearN_lt pB_ok
 rw[nearA] at h1
 rw[nearB] at h2
 rw[hop_symm (by omega) (by omega) h2 h1 (searched (by omega) (by omega) h2) (searched (by omega) (by omega) h1)]
 exact hop_AB
theorem plOf_repAt (t:Int) (p:Pl):plOf (repAt t p)=p:=by
 unfold plOf repAt
 simp
theorem valR_repAt {t:Int} {p:Pl} (hp:p.Ok) (h0:0≤t) (h1:t≤52595999):ValR (repAt t p):=⟨Ok.valid hp,h0,h1⟩
theorem plB_at (n s t:Int) (p q:Pl):plB n (repAt s p) (repAt t q)=decide (s < t∧1440*hopN p q≤n*(t-s)+1440):=by
 unfold plB
 rw[plOf_repAt,plOf_repAt];rfl
def lEx:List Rep:=[repAt 0 pA,repAt 60 pB,repAt 120 pA]
def lEy:List Rep:=[repAt 120 pA,repAt 60 pB,repAt 0 pA]
theorem ex_rel:∀ i k,i < 3→k < 3→relP 24 lEx i k=(decide (i=0) && decide (k=2)):=by
 intro i k hi hk
 have h:∀ i,i < 3→i=0∨i=1∨i=2:=by omega
 have e0:lEx.getD 0 rep0=repAt 0 pA:=rfl
 have e1:lEx.getD 1 rep0=repAt 60 pB:=rfl
 have e2:lEx.getD 2 rep0=repAt 120 pA:=rfl
 have hAA:hopN pA pA=0:=by unfold hopN;rw[if_pos rfl]
 unfold relP
 rcases h i hi with rfl|rfl|rfl<;>rcases h k hk with rfl|rfl|rfl<;>simp only[e0,e1,e2,plB_at,hopN_AB,hopN_BA,hAA]<;>decide
theorem ex_chain:chL 24 lEx=[0,2]∧chE 24 lEx=0:=by
 have hv:AllV lEx:=fun r hr=>by
  simp only[lEx,List.mem_cons,List.not_mem_nil,or_false] at hr
  rcases hr with rfl|rfl|rfl
  ·exact valR_repAt pA_ok (by omega) (by omega)
  ·exact valR_repAt pB_ok (by omega) (by omega)
  ·exact valR_repAt pA_ok (by omega) (by omega)
 have ha:AscT lEx:=by unfold AscT lEx repAt;decide
 obtain⟨h1,h2⟩:=chE_ok (n:=24) (l:=lEx) ⟨by decide,hv⟩ ha
 refine⟨?_,h1⟩
 rw[h2]
 exact (chain_congr ex_rel).trans (by decide)
theorem ey_susp:suL 24 lEy=[1]∧suE 24 lEy=0:=by
 have hv:MovV lEy:=fun r hr _=>by
  simp only[lEy,List.mem_cons,List.not_mem_nil,or_false] at hr
  rcases hr with rfl|rfl|rfl
  ·exact valR_repAt pA_ok (by omega) (by omega)
  ·exact valR_repAt pB_ok (by omega) (by omega)
  ·exact valR_repAt pA_ok (by omega) (by omega)
 have hnm:∀ i,i < 3→(rsOf lEy).nm i=dStr∧(rsOf lEy).mv i=true:=fun i hi=>by
  have:i=0∨i=1∨i=2:=by omega
  rcases this with rfl|rfl|rfl<;>exact⟨rfl,rfl⟩
 have hd:¬ (rsOf lEy).Dup:=by
  rintro⟨i,k,h1,h2,_,_,_,h3⟩
  have h2':i < 3:=h2
  have hik:(i=1∧k=0)∨(i=2∧k=0)∨(i=2∧k=1):=by omega
  rcases hik with ⟨rfl,rfl⟩|⟨rfl,rfl⟩|⟨rfl,rfl⟩<;>exact absurd h3 (by decide)
 have hg:(rsOf lEy).IsG dStr [2,1,0]:=by
  have e:(rsOf lEy).grp dStr=[0,1,2]:=by
   have:∀ i∈List.range 3,((rsOf lEy).mv i && decide ((rsOf lEy).nm i=dStr))=true:=fun i hi=>by
    obtain⟨a,b⟩:=hnm i (List.mem_range.1 hi)
    rw[a,b];simp
   exact List.filter_eq_self.2 this
  exact⟨by rw[e];decide,by decide⟩
 have hgs:=hg.unique hd
 have hb:badL (relP 24 lEy) [2,1,0]=[1]:=by
  unfold badL
  have hc:chainP (fun a b=>relP 24 lEy ([2,1,0].getD a 0) ([2,1,0].getD b 0)) [2,1,0].length=[0,2]:=by
   refine (chain_congr (Q:=fun i k=>decide (i=0) && decide (k=2)) (n:=3) fun i k hi hk=>?_).trans (by decide)
   have:=ex_rel i k hi hk
   rw[←this]
   have h:∀ i,i < 3→i=0∨i=1∨i=2:=by omega
   rcases h i hi with rfl|rfl|rfl<;>rcases h k hk with rfl|rfl|rfl<;>rfl
  rw[hc];decide
 obtain⟨h1,h2⟩:=suE_ok (n:=24) (l:=lEy) ⟨by decide,hv⟩ hd
 refine⟨?_,h1⟩
 rw[h2]
 unfold Rs.susp
 have e:∀ i∈List.range 3,((rsOf lEy).mv i && (badL (relP 24 lEy) ((rsOf lEy).gs ((rsOf lEy).nm i))).contains i)=[1].contains i:=fun i hi=>by
  obtain⟨a,b⟩:=hnm i (List.mem_range.1 hi)
  rw[a,b,←hgs,hb];rfl
 exact (List.filter_congr e).trans (by decide)
theorem ex_plaus:plausB 24 (repAt 0 pA) (repAt 300 pB)=true:=by
 unfold plausB
 rw[plB_at,hopN_AB,zDt (valR_repAt pA_ok (by omega) (by omega):ValR (repAt 0 pA)),zDt (valR_repAt pB_ok (by omega) (by omega):ValR (repAt 300 pB))]
 decide
structure PlC (w:World) (b:Nat) (f x y z:Int):Prop where
 c0:w.cell? ⟨b,0,none⟩=some (.int .i64 f)
 c1:w.cell? ⟨b,1,none⟩=some (.int .i64 x)
 c2:w.cell? ⟨b,2,none⟩=some (.int .i64 y)
 c3:w.cell? ⟨b,3,none⟩=some (.int .i64 z)
theorem PlC.bl {w w':World} {b:Nat} {f x y z:Int} (h:PlC w b f x y z) (hb:Below w.heap.size w w'):PlC w' b f x y z:=⟨zP hb h.c0,zP hb h.c1,zP hb h.c2,zP hb h.c3⟩
theorem at_A (t:Int) (w:World):Calls Tryz.prog 28 #[.int .i64 t,.agg #[.int .i64 0,.int .i64 840,.int .i64 0,.int .i64 0]] w fun e w'=>e=.returned (.agg #[.int .i64 2,.string dStr,.int .i64 t,.int .i64 0,.int .i64 840,.int .i64 0,.int .i64 0,.slice none 0 0])∧Below w.heap.size w w':=by
 have h:=at12_any t pA pA_ok w
 rw[pA_norm] at h
 exact h
theorem at_B (t:Int) (w:World):Calls Tryz.prog 28 #[.int .i64 t,.agg #[.int .i64 0,.int .i64 315,.int .i64 525,.int .i64 0]] w fun e w'=>e=.returned (.agg #[.int .i64 2,.string dStr,.int .i64 t,.int .i64 0,.int .i64 315,.int .i64 525,.int .i64 0,.slice none 0 0])∧Below w.heap.size w w':=by
 have h:=at12_any t pB pB_ok w
 rw[pB_norm] at h
 exact h
theorem vec3 (w:World) (b:Nat) (L:List Rep) (r s t:Rep) (hL:L=[r,s,t]) (h0:RptAt w b (0+0*8) r) (h1:RptAt w b (0+1*8) s) (h2:RptAt w b (0+2*8) t):VecR w (some ⟨b,0,none⟩) L:=by
 subst hL
 refine⟨b,0,fun _=>rfl,fun k hk=>?_⟩
 have:k=0∨k=1∨k=2:=by simp at hk;omega
 rcases this with rfl|rfl|rfl
 ·exact h0
 ·exact h1
 ·exact h2
theorem kints12 (p q:Option Addr) (zs ys:List Int) (cz cy n:Nat) (w:World) (h1:zs.length=n) (h2:ys.length=n) (hV:VecAt w p zs) (hU:VecAt w q ys) (hl:n≤1000) :
  Calls Tryz.prog 18 #[.slice p n cz,.slice q n cy] w fun e w'=>e=.returned (.bool (decide (zs=ys)))∧Below w.heap.size w w':=by
 subst h1;exact kints_len p q zs ys cz cy w hV hU h2.symm (by omega)
theorem kintsEq (p q:Option Addr) (zs:List Int) (cz cy n:Nat) (w:World) (h1:zs.length=n) (hV:VecAt w p zs) (hU:VecAt w q zs) (hl:n≤1000) :
  Calls Tryz.prog 18 #[.slice p n cz,.slice q n cy] w fun e w'=>e=.returned (.bool true)∧Below w.heap.size w w':=by
 have h:=kints12 p q zs zs cz cy n w h1 h1 hV hU hl
 rw[zDt rfl] at h
 exact h
theorem RdI.at' {w:World} {v:Value} {zs:List Int} {n:Nat} (h:RdI w v zs) (hn:zs.length=n):∃ p cap,v=.slice p n cap∧VecAt w p zs:=by
 obtain⟨p,cap,h1,_,h2⟩:=h
 exact⟨p,cap,by rw[←hn];exact h1,h2⟩
theorem exChain (b cap:Nat) (w:World) (hT:HasTab w) (hV:VecR w (some ⟨b,0,none⟩) lEx) (hb:b < w.heap.size):Calls Tryz.prog 14 #[.slice (some ⟨b,0,none⟩) 3 cap,.int .i64 24] w fun e w'=>∃ v,e=.returned (.tuple #[v,.int .i64 0])∧RdI w' v [0,2]∧Below w.heap.size w w':=by
 have h:=Chain_any 24 (some ⟨b,0,none⟩) cap lEx (by decide) w hT hV (fun a ha _=>by injection ha with ha;rw[←ha];exact hb)
 rw[ex_chain.1,ex_chain.2] at h
 refine h.mono ?_
 rintro e w' ⟨v,rfl,hq,hb⟩
 exact⟨v,rfl,hq.rd,hb⟩
theorem exSusp (b cap:Nat) (w:World) (hT:HasTab w) (hV:VecR w (some ⟨b,0,none⟩) lEy) (hb:b < w.heap.size):Calls Tryz.prog 16 #[.slice (some ⟨b,0,none⟩) 3 cap,.int .i64 24] w fun e w'=>∃ v,e=.returned (.tuple #[v,.int .i64 0])∧RdI w' v [1]∧Below w.heap.size w w':=by
 have h:=Suspects_any 24 (some ⟨b,0,none⟩) cap 3 lEy rfl (by omega) (fun r hr=>by
  simp only[lEy,List.mem_cons,List.not_mem_nil,or_false] at hr
  rcases hr with rfl|rfl|rfl<;>exact (by decide:(5:Nat)≤maxLen)) w hT hV (fun a ha _=>by injection ha with ha;rw[←ha];exact hb)
 rw[ey_susp.1,ey_susp.2] at h
 exact h
theorem exPlaus (w:World) (hT:HasTab w):Calls Tryz.prog 19 #[.agg #[.int .i64 2,.string dStr,.int .i64 0,.int .i64 0,.int .i64 840,.int .i64 0,.int .i64 0,.slice none 0 0],.agg #[.int .i64 2,.string dStr,.int .i64 300,.int .i64 0,.int .i64 315,.int .i64 525,.int .i64 0,.slice none 0 0],.int .i64 24] w fun e w'=>e=.returned (.bool true)∧Below w.heap.size w w':=by
 have h:=Plausible_any 24 (repAt 0 pA) (repAt 300 pB) ⟨_,_,_,rfl⟩ ⟨_,_,_,rfl⟩ w hT
 rw[ex_plaus] at h
 exact h
theorem awake12_any (w:World) (hT:HasTab w):Calls Tryz.prog 9 #[] w fun e w'=>e=.returned (.bool true)∧Below w.heap.size w w':=by
 have HT:=zN hT
 have HB0:Hid (Below w.heap.size w ((w.alloc (.cells #[.int .i64 0,.int .i64 840,.int .i64 0,.int .i64 0] 32)).alloc (.cells #[.int .i64 0,.int .i64 315,.int .i64 525,.int .i64 0] 32))):=zN (by repeat (first|(with_reducible first|assumption|exact zBr _ _|refine zBs ?_ (by first|omega|(simp<;>omega)) _|refine zBa ?_ (by first|omega|(simp<;>omega)) _|apply zBd)|assumption))
 have hS0:PlC ((w.alloc (.cells #[.int .i64 0,.int .i64 840,.int .i64 0,.int .i64 0] 32)).alloc (.cells #[.int .i64 0,.int .i64 315,.int .i64 525,.int .i64 0] 32)) w.heap.size 0 840 0 0∧PlC ((w.alloc (.cells #[.int .i64 0,.int .i64 840,.int .i64 0,.int .i64 0] 32)).alloc (.cells #[.int .i64 0,.int .i64 315,.int .i64 525,.int .i64 0] 32)) (w.heap.size+1) 0 315 525 0:=⟨⟨(by simp[zO,zJ,zQ]),(by simp[zO,zJ,zQ]),(by simp[zO,zJ,zQ]),(by simp[zO,zJ,zQ])⟩,⟨(by simp[zO,zJ,zQ]),(by simp[zO,zJ,zQ]),(by simp[zO,zJ,zQ]),(by simp[zO,zJ,zQ])⟩⟩
 have HC0:=zN hS0
 clear hT hS0
 go_enter Tryz.func9,Tryz.ntmps9
 go_wp2_with fail
 obtain⟨P,hP⟩:∃ P,P=w.heap.size:=⟨_,rfl⟩
 rw[←hP] at HC0 ⊢
 clear hP
 generalize ((w.alloc (.cells #[.int .i64 0,.int .i64 840,.int .i64 0,.int .i64 0] 32)).alloc (.cells #[.int .i64 0,.int .i64 315,.int .i64 525,.int .i64 0] 32))=w0 at *
 go_cut [1,2,3,4] from 9 to 19 (fun s1 s2 s3 s4 wx=>s1=.pointer (some ⟨P,0,none⟩)∧s2=.pointer (some ⟨P+1,0,none⟩)∧s4=.int .i64 0∧RdI wx s3 [0,2]∧PlC wx P 0 840 0 0∧PlC wx (P+1) 0 315 525 0∧Below w.heap.size w wx)
 case first=>
  have hSD:PlC w0.drew P 0 840 0 0∧PlC w0.drew (P+1) 0 315 525 0:=⟨HC0.out.1.bl (zBd (zBr _ _)),HC0.out.2.bl (zBd (zBr _ _))⟩
  have HBD:Hid (Below w0.heap.size w0 w0.drew):=zN (zBd (zBr _ _))
  clear HC0
  refine RX.region RX.fN (fun w'=>PlC w' P 0 840 0 0∧PlC w' (P+1) 0 315 525 0) (by kernel_rfl) (by kernel_rfl) (hSD) (fun OPS HO QR hQR=>?_)
  repeat (refine zeX (fun R hR=>?_);(first|refine zaX (by first|rfl|(rw[HO.out];rfl)) (by simp only[zA,zB,zC,zD];rfl) ?_|refine zbX (by first|rfl|(rw[HO.out];rfl)) rfl (by first|exact .inl rfl|exact .inr rfl) (by simp only[zE,zF,zG,zH];rfl) (by simp only[zA,zB,zC,zD];rfl) ?_|refine zcX (by first|rfl|(rw[HO.out];rfl)) rfl rfl (by simp only[zE,zF,zG,zH];rfl) (by simp only[zA,zB,zC,zD];rfl) ?_|(refine zdX (by first|rfl|(rw[HO.out];rfl)) rfl rfl rfl ?_;apply zEx;apply zEx;refine⟨fun w' hS K hK=>?_,?_,?_⟩;(focus (obtain⟨⟨x0,x1,x2,x3⟩,⟨y0,y1,y2,y3⟩⟩:=hS;go_wp2;exact hK _ _ (by simp only[zl,zG,zH];first|exact zf (by omega)|exact zg (by omega)|exact zh (by omega)|exact zi (by omega)|exact zj (by omega)|exact zk (by omega)|exact RX.bneB _|rfl) rfl));(focus (simp only[zA,zB,zC,zD];rfl))));refine hR _ _ ?_;clear hR R)
  refine zeX (fun R hR=>?_)
  refine zgX (by first|rfl|(rw[HO.out];rfl)) rfl (fun K hK=>?_)
  go_wp2_with fail
  refine (at_A 0 _).mono ?_
  rintro e v1 ⟨rfl,hb1⟩
  have HB1:=zN (HBD.out.trans (hb1.mono HBD.out.size))
  have hS1:PlC v1 P 0 840 0 0∧PlC v1 (P+1) 0 315 525 0:=⟨hSD.1.bl hb1,hSD.2.bl hb1⟩
  clear hb1
  refine hK _ _ ⟨hS1,hR _ _ ?_⟩;clear hK K hR R
  repeat (refine zeX (fun R hR=>?_);(first|refine zaX (by first|rfl|(rw[HO.out];rfl)) (by simp only[zA,zB,zC,zD];rfl) ?_|refine zbX (by first|rfl|(rw[HO.out];rfl)) rfl (by first|exact .inl rfl|exact .inr rfl) (by simp only[zE,zF,zG,zH];rfl) (by simp only[zA,zB,zC,zD];rfl) ?_|refine zcX (by first|rfl|(rw[HO.out];rfl)) rfl rfl (by simp only[zE,zF,zG,zH];rfl) (by simp only[zA,zB,zC,zD];rfl) ?_|(refine zdX (by first|rfl|(rw[HO.out];rfl)) rfl rfl rfl ?_;apply zEx;apply zEx;refine⟨fun w' hS K hK=>?_,?_,?_⟩;(focus (obtain⟨⟨x0,x1,x2,x3⟩,⟨y0,y1,y2,y3⟩⟩:=hS;go_wp2;exact hK _ _ (by simp only[zl,zG,zH];first|exact zf (by omega)|exact zg (by omega)|exact zh (by omega)|exact zi (by omega)|exact zj (by omega)|exact zk (by omega)|exact RX.bneB _|rfl) rfl));(focus (simp only[zA,zB,zC,zD];rfl))));refine hR _ _ ?_;clear hR R)
  refine zeX (fun R hR=>?_)
  refine zgX (by first|rfl|(rw[HO.out];rfl)) rfl (fun K hK=>?_)
  go_wp2_with fail
  refine (at_B 60 _).mono ?_
  rintro e v2 ⟨rfl,hb2⟩
  have HB2:=zN (HB1.out.trans (hb2.mono HB1.out.size))
  have hS2:PlC v2 P 0 840 0 0∧PlC v2 (P+1) 0 315 525 0:=⟨hS1.1.bl hb2,hS1.2.bl hb2⟩
  clear hb2
  refine hK _ _ ⟨hS2,hR _ _ ?_⟩;clear hK K hR R
  repeat (refine zeX (fun R hR=>?_);(first|refine zaX (by first|rfl|(rw[HO.out];rfl)) (by simp only[zA,zB,zC,zD];rfl) ?_|refine zbX (by first|rfl|(rw[HO.out];rfl)) rfl (by first|exact .inl rfl|exact .inr rfl) (by simp only[zE,zF,zG,zH];rfl) (by simp only[zA,zB,zC,zD];rfl) ?_|refine zcX (by first|rfl|(rw[HO.out];rfl)) rfl rfl (by simp only[zE,zF,zG,zH];rfl) (by simp only[zA,zB,zC,zD];rfl) ?_|(refine zdX (by first|rfl|(rw[HO.out];rfl)) rfl rfl rfl ?_;apply zEx;apply zEx;refine⟨fun w' hS K hK=>?_,?_,?_⟩;(focus (obtain⟨⟨x0,x1,x2,x3⟩,⟨y0,y1,y2,y3⟩⟩:=hS;go_wp2;exact hK _ _ (by simp only[zl,zG,zH];first|exact zf (by omega)|exact zg (by omega)|exact zh (by omega)|exact zi (by omega)|exact zj (by omega)|exact zk (by omega)|exact RX.bneB _|rfl) rfl));(focus (simp only[zA,zB,zC,zD];rfl))));refine hR _ _ ?_;clear hR R)
  refine zeX (fun R hR=>?_)
  refine zgX (by first|rfl|(rw[HO.out];rfl)) rfl (fun K hK=>?_)
  go_wp2_with fail
  refine (at_A 120 _).mono ?_
  rintro e v3 ⟨rfl,hb3⟩
  have HB3:=zN (HB2.out.trans (hb3.mono HB2.out.size))
  have hS3:PlC v3 P 0 840 0 0∧PlC v3 (P+1) 0 315 525 0:=⟨hS2.1.bl hb3,hS2.2.bl hb3⟩
  clear hb3
  refine hK _ _ ⟨hS3,hR _ _ ?_⟩;clear hK K hR R
  repeat (refine zeX (fun R hR=>?_);(first|refine zaX (by first|rfl|(rw[HO.out];rfl)) (by simp only[zA,zB,zC,zD];rfl) ?_|refine zbX (by first|rfl|(rw[HO.out];rfl)) rfl (by first|exact .inl rfl|exact .inr rfl) (by simp only[zE,zF,zG,zH];rfl) (by simp only[zA,zB,zC,zD];rfl) ?_|refine zcX (by first|rfl|(rw[HO.out];rfl)) rfl rfl (by simp only[zE,zF,zG,zH];rfl) (by simp only[zA,zB,zC,zD];rfl) ?_|(refine zdX (by first|rfl|(rw[HO.out];rfl)) rfl rfl rfl ?_;apply zEx;apply zEx;refine⟨fun w' hS K hK=>?_,?_,?_⟩;(focus (obtain⟨⟨x0,x1,x2,x3⟩,⟨y0,y1,y2,y3⟩⟩:=hS;go_wp2;exact hK _ _ (by simp only[zl,zG,zH];first|exact zf (by omega)|exact zg (by omega)|exact zh (by omega)|exact zi (by omega)|exact zj (by omega)|exact zk (by omega)|exact RX.bneB _|rfl) rfl));(focus (simp only[zA,zB,zC,zD];rfl))));refine hR _ _ ?_;clear hR R)
  refine zeX (fun R hR=>?_)
  refine zgX (by first|rfl|(rw[HO.out];rfl)) rfl (fun K hK=>?_)
  go_wp2
  have hba:Below v3.heap.size v3 (v3.alloc (.cells #[.int .i64 2,.string dStr,.int .i64 0,.int .i64 0,.int .i64 840,.int .i64 0,.int .i64 0,.slice none 0 0,.int .i64 2,.string dStr,.int .i64 60,.int .i64 0,.int .i64 315,.int .i64 525,.int .i64 0,.slice none 0 0,.int .i64 2,.string dStr,.int .i64 120,.int .i64 0,.int .i64 840,.int .i64 0,.int .i64 0,.slice none 0 0] 35)):=(zBr _ _).alloc (Nat.le_refl _) _
  have HB4:=zN (HB3.out.trans (hba.mono HB3.out.size))
  have hS4:PlC (v3.alloc (.cells #[.int .i64 2,.string dStr,.int .i64 0,.int .i64 0,.int .i64 840,.int .i64 0,.int .i64 0,.slice none 0 0,.int .i64 2,.string dStr,.int .i64 60,.int .i64 0,.int .i64 315,.int .i64 525,.int .i64 0,.slice none 0 0,.int .i64 2,.string dStr,.int .i64 120,.int .i64 0,.int .i64 840,.int .i64 0,.int .i64 0,.slice none 0 0] 35)) P 0 840 0 0∧PlC (v3.alloc (.cells #[.int .i64 2,.string dStr,.int .i64 0,.int .i64 0,.int .i64 840,.int .i64 0,.int .i64 0,.slice none 0 0,.int .i64 2,.string dStr,.int .i64 60,.int .i64 0,.int .i64 315,.int .i64 525,.int .i64 0,.slice none 0 0,.int .i64 2,.string dStr,.int .i64 120,.int .i64 0,.int .i64 840,.int .i64 0,.int .i64 0,.slice none 0 0] 35)) (P+1) 0 315 525 0:=⟨hS3.1.bl hba,hS3.2.bl hba⟩
  have hV4:VecR (v3.alloc (.cells #[.int .i64 2,.string dStr,.int .i64 0,.int .i64 0,.int .i64 840,.int .i64 0,.int .i64 0,.slice none 0 0,.int .i64 2,.string dStr,.int .i64 60,.int .i64 0,.int .i64 315,.int .i64 525,.int .i64 0,.slice none 0 0,.int .i64 2,.string dStr,.int .i64 120,.int .i64 0,.int .i64 840,.int .i64 0,.int .i64 0,.slice none 0 0] 35)) (some ⟨v3.heap.size,0,none⟩) lEx:=vec3 _ _ _ (repAt 0 pA) (repAt 60 pB) (repAt 120 pA) rfl ⟨(by simp[zO,zJ,zQ]<;>rfl),(by simp[zO,zJ,zQ]<;>rfl),(by simp[zO,zJ,zQ]<;>rfl),(by simp[zO,zJ,zQ]<;>rfl),(by simp[zO,zJ,zQ]<;>rfl),(by simp[zO,zJ,zQ]<;>rfl),(by simp[zO,zJ,zQ]<;>rfl),(by simp[zO,zJ,zQ]<;>rfl),⟨_,_,_,rfl⟩⟩ ⟨(by simp[zO,zJ,zQ]<;>rfl),(by simp[zO,zJ,zQ]<;>rfl),(by simp[zO,zJ,zQ]<;>rfl),(by simp[zO,zJ,zQ]<;>rfl),(by simp[zO,zJ,zQ]<;>rfl),(by simp[zO,zJ,zQ]<;>rfl),(by simp[zO,zJ,zQ]<;>rfl),(by simp[zO,zJ,zQ]<;>rfl),⟨_,_,_,rfl⟩⟩ ⟨(by simp[zO,zJ,zQ]<;>rfl),(by simp[zO,zJ,zQ]<;>rfl),(by simp[zO,zJ,zQ]<;>rfl),(by simp[zO,zJ,zQ]<;>rfl),(by simp[zO,zJ,zQ]<;>rfl),(by simp[zO,zJ,zQ]<;>rfl),(by simp[zO,zJ,zQ]<;>rfl),(by simp[zO,zJ,zQ]<;>rfl),⟨_,_,_,rfl⟩⟩
  have hl4:v3.heap.size < (v3.alloc (.cells #[.int .i64 2,.string dStr,.int .i64 0,.int .i64 0,.int .i64 840,.int .i64 0,.int .i64 0,.slice none 0 0,.int .i64 2,.string dStr,.int .i64 60,.int .i64 0,.int .i64 315,.int .i64 525,.int .i64 0,.slice none 0 0,.int .i64 2,.string dStr,.int .i64 120,.int .i64 0,.int .i64 840,.int .i64 0,.int .i64 0,.slice none 0 0] 35)).heap.size:=by simp
  have HK:=zN (exChain v3.heap.size 3 _ ((HT.out.below HB0.out).below HB4.out) hV4 hl4)
  clear hba hV4 hl4
  refine⟨hS4,hR _ _ ?_⟩;clear hR R
  repeat (refine zeX (fun R hR=>?_);(first|refine zaX (by first|rfl|(rw[HO.out];rfl)) (by simp only[zA,zB,zC,zD];rfl) ?_|refine zbX (by first|rfl|(rw[HO.out];rfl)) rfl (by first|exact .inl rfl|exact .inr rfl) (by simp only[zE,zF,zG,zH];rfl) (by simp only[zA,zB,zC,zD];rfl) ?_|refine zcX (by first|rfl|(rw[HO.out];rfl)) rfl rfl (by simp only[zE,zF,zG,zH];rfl) (by simp only[zA,zB,zC,zD];rfl) ?_|(refine zdX (by first|rfl|(rw[HO.out];rfl)) rfl rfl rfl ?_;apply zEx;apply zEx;refine⟨fun w' hS K hK=>?_,?_,?_⟩;(focus (obtain⟨⟨x0,x1,x2,x3⟩,⟨y0,y1,y2,y3⟩⟩:=hS;go_wp2;exact hK _ _ (by simp only[zl,zG,zH];first|exact zf (by omega)|exact zg (by omega)|exact zh (by omega)|exact zi (by omega)|exact zj (by omega)|exact zk (by omega)|exact RX.bneB _|rfl) rfl));(focus (simp only[zA,zB,zC,zD];rfl))));refine hR _ _ ?_;clear hR R)
  refine zeX (fun R hR=>?_)
  refine zgX (by first|rfl|(rw[HO.out];rfl)) rfl (fun K hK=>?_)
  go_wp2_with fail
  refine HK.out.mono ?_
  rintro e v5 ⟨vc,rfl,hr5,hb5⟩
  have HB5:=zN (HB4.out.trans (hb5.mono HB4.out.size))
  have hS5:PlC v5 P 0 840 0 0∧PlC v5 (P+1) 0 315 525 0:=⟨hS4.1.bl hb5,hS4.2.bl hb5⟩
  have HR5:=zN hr5
  clear hb5 hr5 HK
  refine hK _ _ ⟨hS5,hR _ _ ?_⟩;clear hK K hR R
  repeat (refine zeX (fun R hR=>?_);(first|refine zaX (by first|rfl|(rw[HO.out];rfl)) (by simp only[zA,zB,zC,zD];rfl) ?_|refine zbX (by first|rfl|(rw[HO.out];rfl)) rfl (by first|exact .inl rfl|exact .inr rfl) (by simp only[zE,zF,zG,zH];rfl) (by simp only[zA,zB,zC,zD];rfl) ?_|refine zcX (by first|rfl|(rw[HO.out];rfl)) rfl rfl (by simp only[zE,zF,zG,zH];rfl) (by simp only[zA,zB,zC,zD];rfl) ?_|(refine zdX (by first|rfl|(rw[HO.out];rfl)) rfl rfl rfl ?_;apply zEx;apply zEx;refine⟨fun w' hS K hK=>?_,?_,?_⟩;(focus (obtain⟨⟨x0,x1,x2,x3⟩,⟨y0,y1,y2,y3⟩⟩:=hS;go_wp2;exact hK _ _ (by simp only[zl,zG,zH];first|exact zf (by omega)|exact zg (by omega)|exact zh (by omega)|exact zi (by omega)|exact zj (by omega)|exact zk (by omega)|exact RX.bneB _|rfl) rfl));(focus (simp only[zA,zB,zC,zD];rfl))));refine hR _ _ ?_;clear hR R)
  refine RX.wpL_nil (hQR _ _ (hS5) ?_);clear hQR QR HO OPS
  go_wp2
  go_meet
  case rel=>exact⟨rfl,rfl,rfl,HR5.out,hS5.1,hS5.2,HB0.out.trans (HB5.out.mono HB0.out.size)⟩
 case rest=>
  clear HC0 HB0
  obtain⟨rfl,rfl,rfl,hr1,hp1,hq1,hb1⟩:=hcut
  have HR1:=zN hr1
  have HB0:=zN hb1
  have HC0:Hid (PlC wc P 0 840 0 0∧PlC wc (P+1) 0 315 525 0):=zN ⟨hp1,hq1⟩
  clear hr1 hp1 hq1 hb1
  go_wp2_with fail
  generalize wc=w0 at *
  go_cut [1,2,3,4,5,6] from 20 to 30 (fun s1 s2 s3 s4 s5 s6 wx=>s1=.pointer (some ⟨P,0,none⟩)∧s2=.pointer (some ⟨P+1,0,none⟩)∧s4=.int .i64 0∧s6=.int .i64 0∧RdI wx s3 [0,2]∧RdI wx s5 [1]∧PlC wx P 0 840 0 0∧PlC wx (P+1) 0 315 525 0∧Below w.heap.size w wx)
  case first=>
   have hSD:PlC w0.drew P 0 840 0 0∧PlC w0.drew (P+1) 0 315 525 0:=⟨HC0.out.1.bl (zBd (zBr _ _)),HC0.out.2.bl (zBd (zBr _ _))⟩
   have HBD:Hid (Below w0.heap.size w0 w0.drew):=zN (zBd (zBr _ _))
   clear HC0
   refine RX.region RX.fN (fun w'=>PlC w' P 0 840 0 0∧PlC w' (P+1) 0 315 525 0) (by kernel_rfl) (by kernel_rfl) (hSD) (fun OPS HO QR hQR=>?_)
   repeat (refine zeX (fun R hR=>?_);(first|refine zaX (by first|rfl|(rw[HO.out];rfl)) (by simp only[zA,zB,zC,zD];rfl) ?_|refine zbX (by first|rfl|(rw[HO.out];rfl)) rfl (by first|exact .inl rfl|exact .inr rfl) (by simp only[zE,zF,zG,zH];rfl) (by simp only[zA,zB,zC,zD];rfl) ?_|refine zcX (by first|rfl|(rw[HO.out];rfl)) rfl rfl (by simp only[zE,zF,zG,zH];rfl) (by simp only[zA,zB,zC,zD];rfl) ?_|(refine zdX (by first|rfl|(rw[HO.out];rfl)) rfl rfl rfl ?_;apply zEx;apply zEx;refine⟨fun w' hS K hK=>?_,?_,?_⟩;(focus (obtain⟨⟨x0,x1,x2,x3⟩,⟨y0,y1,y2,y3⟩⟩:=hS;go_wp2;exact hK _ _ (by simp only[zl,zG,zH];first|exact zf (by omega)|exact zg (by omega)|exact zh (by omega)|exact zi (by omega)|exact zj (by omega)|exact zk (by omega)|exact RX.bneB _|rfl) rfl));(focus (simp only[zA,zB,zC,zD];rfl))));refine hR _ _ ?_;clear hR R)
   refine zeX (fun R hR=>?_)
   refine zgX (by first|rfl|(rw[HO.out];rfl)) rfl (fun K hK=>?_)
   go_wp2_with fail
   refine (at_A 120 _).mono ?_
   rintro e v1 ⟨rfl,hb1⟩
   have HB1:=zN (HBD.out.trans (hb1.mono HBD.out.size))
   have hS1:PlC v1 P 0 840 0 0∧PlC v1 (P+1) 0 315 525 0:=⟨hSD.1.bl hb1,hSD.2.bl hb1⟩
   clear hb1
   refine hK _ _ ⟨hS1,hR _ _ ?_⟩;clear hK K hR R
   repeat (refine zeX (fun R hR=>?_);(first|refine zaX (by first|rfl|(rw[HO.out];rfl)) (by simp only[zA,zB,zC,zD];rfl) ?_|refine zbX (by first|rfl|(rw[HO.out];rfl)) rfl (by first|exact .inl rfl|exact .inr rfl) (by simp only[zE,zF,zG,zH];rfl) (by simp only[zA,zB,zC,zD];rfl) ?_|refine zcX (by first|rfl|(rw[HO.out];rfl)) rfl rfl (by simp only[zE,zF,zG,zH];rfl) (by simp only[zA,zB,zC,zD];rfl) ?_|(refine zdX (by first|rfl|(rw[HO.out];rfl)) rfl rfl rfl ?_;apply zEx;apply zEx;refine⟨fun w' hS K hK=>?_,?_,?_⟩;(focus (obtain⟨⟨x0,x1,x2,x3⟩,⟨y0,y1,y2,y3⟩⟩:=hS;go_wp2;exact hK _ _ (by simp only[zl,zG,zH];first|exact zf (by omega)|exact zg (by omega)|exact zh (by omega)|exact zi (by omega)|exact zj (by omega)|exact zk (by omega)|exact RX.bneB _|rfl) rfl));(focus (simp only[zA,zB,zC,zD];rfl))));refine hR _ _ ?_;clear hR R)
   refine zeX (fun R hR=>?_)
   refine zgX (by first|rfl|(rw[HO.out];rfl)) rfl (fun K hK=>?_)
   go_wp2_with fail
   refine (at_B 60 _).mono ?_
   rintro e v2 ⟨rfl,hb2⟩
   have HB2:=zN (HB1.out.trans (hb2.mono HB1.out.size))
   have hS2:PlC v2 P 0 840 0 0∧PlC v2 (P+1) 0 315 525 0:=⟨hS1.1.bl hb2,hS1.2.bl hb2⟩
   clear hb2
   refine hK _ _ ⟨hS2,hR _ _ ?_⟩;clear hK K hR R
   repeat (refine zeX (fun R hR=>?_);(first|refine zaX (by first|rfl|(rw[HO.out];rfl)) (by simp only[zA,zB,zC,zD];rfl) ?_|refine zbX (by first|rfl|(rw[HO.out];rfl)) rfl (by first|exact .inl rfl|exact .inr rfl) (by simp only[zE,zF,zG,zH];rfl) (by simp only[zA,zB,zC,zD];rfl) ?_|refine zcX (by first|rfl|(rw[HO.out];rfl)) rfl rfl (by simp only[zE,zF,zG,zH];rfl) (by simp only[zA,zB,zC,zD];rfl) ?_|(refine zdX (by first|rfl|(rw[HO.out];rfl)) rfl rfl rfl ?_;apply zEx;apply zEx;refine⟨fun w' hS K hK=>?_,?_,?_⟩;(focus (obtain⟨⟨x0,x1,x2,x3⟩,⟨y0,y1,y2,y3⟩⟩:=hS;go_wp2;exact hK _ _ (by simp only[zl,zG,zH];first|exact zf (by omega)|exact zg (by omega)|exact zh (by omega)|exact zi (by omega)|exact zj (by omega)|exact zk (by omega)|exact RX.bneB _|rfl) rfl));(focus (simp only[zA,zB,zC,zD];rfl))));refine hR _ _ ?_;clear hR R)
   refine zeX (fun R hR=>?_)
   refine zgX (by first|rfl|(rw[HO.out];rfl)) rfl (fun K hK=>?_)
   go_wp2_with fail
   refine (at_A 0 _).mono ?_
   rintro e v3 ⟨rfl,hb3⟩
   have HB3:=zN (HB2.out.trans (hb3.mono HB2.out.size))
   have hS3:PlC v3 P 0 840 0 0∧PlC v3 (P+1) 0 315 525 0:=⟨hS2.1.bl hb3,hS2.2.bl hb3⟩
   clear hb3
   refine hK _ _ ⟨hS3,hR _ _ ?_⟩;clear hK K hR R
   repeat (refine zeX (fun R hR=>?_);(first|refine zaX (by first|rfl|(rw[HO.out];rfl)) (by simp only[zA,zB,zC,zD];rfl) ?_|refine zbX (by first|rfl|(rw[HO.out];rfl)) rfl (by first|exact .inl rfl|exact .inr rfl) (by simp only[zE,zF,zG,zH];rfl) (by simp only[zA,zB,zC,zD];rfl) ?_|refine zcX (by first|rfl|(rw[HO.out];rfl)) rfl rfl (by simp only[zE,zF,zG,zH];rfl) (by simp only[zA,zB,zC,zD];rfl) ?_|(refine zdX (by first|rfl|(rw[HO.out];rfl)) rfl rfl rfl ?_;apply zEx;apply zEx;refine⟨fun w' hS K hK=>?_,?_,?_⟩;(focus (obtain⟨⟨x0,x1,x2,x3⟩,⟨y0,y1,y2,y3⟩⟩:=hS;go_wp2;exact hK _ _ (by simp only[zl,zG,zH];first|exact zf (by omega)|exact zg (by omega)|exact zh (by omega)|exact zi (by omega)|exact zj (by omega)|exact zk (by omega)|exact RX.bneB _|rfl) rfl));(focus (simp only[zA,zB,zC,zD];rfl))));refine hR _ _ ?_;clear hR R)
   refine zeX (fun R hR=>?_)
   refine zgX (by first|rfl|(rw[HO.out];rfl)) rfl (fun K hK=>?_)
   go_wp2
   have hba:Below v3.heap.size v3 (v3.alloc (.cells #[.int .i64 2,.string dStr,.int .i64 120,.int .i64 0,.int .i64 840,.int .i64 0,.int .i64 0,.slice none 0 0,.int .i64 2,.string dStr,.int .i64 60,.int .i64 0,.int .i64 315,.int .i64 525,.int .i64 0,.slice none 0 0,.int .i64 2,.string dStr,.int .i64 0,.int .i64 0,.int .i64 840,.int .i64 0,.int .i64 0,.slice none 0 0] 35)):=(zBr _ _).alloc (Nat.le_refl _) _
   have HB4:=zN (HB3.out.trans (hba.mono HB3.out.size))
   have hS4:PlC (v3.alloc (.cells #[.int .i64 2,.string dStr,.int .i64 120,.int .i64 0,.int .i64 840,.int .i64 0,.int .i64 0,.slice none 0 0,.int .i64 2,.string dStr,.int .i64 60,.int .i64 0,.int .i64 315,.int .i64 525,.int .i64 0,.slice none 0 0,.int .i64 2,.string dStr,.int .i64 0,.int .i64 0,.int .i64 840,.int .i64 0,.int .i64 0,.slice none 0 0] 35)) P 0 840 0 0∧PlC (v3.alloc (.cells #[.int .i64 2,.string dStr,.int .i64 120,.int .i64 0,.int .i64 840,.int .i64 0,.int .i64 0,.slice none 0 0,.int .i64 2,.string dStr,.int .i64 60,.int .i64 0,.int .i64 315,.int .i64 525,.int .i64 0,.slice none 0 0,.int .i64 2,.string dStr,.int .i64 0,.int .i64 0,.int .i64 840,.int .i64 0,.int .i64 0,.slice none 0 0] 35)) (P+1) 0 315 525 0:=⟨hS3.1.bl hba,hS3.2.bl hba⟩
   have hV4:VecR (v3.alloc (.cells #[.int .i64 2,.string dStr,.int .i64 120,.int .i64 0,.int .i64 840,.int .i64 0,.int .i64 0,.slice none 0 0,.int .i64 2,.string dStr,.int .i64 60,.int .i64 0,.int .i64 315,.int .i64 525,.int .i64 0,.slice none 0 0,.int .i64 2,.string dStr,.int .i64 0,.int .i64 0,.int .i64 840,.int .i64 0,.int .i64 0,.slice none 0 0] 35)) (some ⟨v3.heap.size,0,none⟩) lEy:=vec3 _ _ _ (repAt 120 pA) (repAt 60 pB) (repAt 0 pA) rfl ⟨(by simp[zO,zJ,zQ]<;>rfl),(by simp[zO,zJ,zQ]<;>rfl),(by simp[zO,zJ,zQ]<;>rfl),(by simp[zO,zJ,zQ]<;>rfl),(by simp[zO,zJ,zQ]<;>rfl),(by simp[zO,zJ,zQ]<;>rfl),(by simp[zO,zJ,zQ]<;>rfl),(by simp[zO,zJ,zQ]<;>rfl),⟨_,_,_,rfl⟩⟩ ⟨(by simp[zO,zJ,zQ]<;>rfl),(by simp[zO,zJ,zQ]<;>rfl),(by simp[zO,zJ,zQ]<;>rfl),(by simp[zO,zJ,zQ]<;>rfl),(by simp[zO,zJ,zQ]<;>rfl),(by simp[zO,zJ,zQ]<;>rfl),(by simp[zO,zJ,zQ]<;>rfl),(by simp[zO,zJ,zQ]<;>rfl),⟨_,_,_,rfl⟩⟩ ⟨(by simp[zO,zJ,zQ]<;>rfl),(by simp[zO,zJ,zQ]<;>rfl),(by simp[zO,zJ,zQ]<;>rfl),(by simp[zO,zJ,zQ]<;>rfl),(by simp[zO,zJ,zQ]<;>rfl),(by simp[zO,zJ,zQ]<;>rfl),(by simp[zO,zJ,zQ]<;>rfl),(by simp[zO,zJ,zQ]<;>rfl),⟨_,_,_,rfl⟩⟩
   have hl4:v3.heap.size < (v3.alloc (.cells #[.int .i64 2,.string dStr,.int .i64 120,.int .i64 0,.int .i64 840,.int .i64 0,.int .i64 0,.slice none 0 0,.int .i64 2,.string dStr,.int .i64 60,.int .i64 0,.int .i64 315,.int .i64 525,.int .i64 0,.slice none 0 0,.int .i64 2,.string dStr,.int .i64 0,.int .i64 0,.int .i64 840,.int .i64 0,.int .i64 0,.slice none 0 0] 35)).heap.size:=by simp
   have HK:=zN (exSusp v3.heap.size 3 _ ((HT.out.below HB0.out).below HB4.out) hV4 hl4)
   clear hba hV4 hl4
   refine⟨hS4,hR _ _ ?_⟩;clear hR R
   repeat (refine zeX (fun R hR=>?_);(first|refine zaX (by first|rfl|(rw[HO.out];rfl)) (by simp only[zA,zB,zC,zD];rfl) ?_|refine zbX (by first|rfl|(rw[HO.out];rfl)) rfl (by first|exact .inl rfl|exact .inr rfl) (by simp only[zE,zF,zG,zH];rfl) (by simp only[zA,zB,zC,zD];rfl) ?_|refine zcX (by first|rfl|(rw[HO.out];rfl)) rfl rfl (by simp only[zE,zF,zG,zH];rfl) (by simp only[zA,zB,zC,zD];rfl) ?_|(refine zdX (by first|rfl|(rw[HO.out];rfl)) rfl rfl rfl ?_;apply zEx;apply zEx;refine⟨fun w' hS K hK=>?_,?_,?_⟩;(focus (obtain⟨⟨x0,x1,x2,x3⟩,⟨y0,y1,y2,y3⟩⟩:=hS;go_wp2;exact hK _ _ (by simp only[zl,zG,zH];first|exact zf (by omega)|exact zg (by omega)|exact zh (by omega)|exact zi (by omega)|exact zj (by omega)|exact zk (by omega)|exact RX.bneB _|rfl) rfl));(focus (simp only[zA,zB,zC,zD];rfl))));refine hR _ _ ?_;clear hR R)
   refine zeX (fun R hR=>?_)
   refine zgX (by first|rfl|(rw[HO.out];rfl)) rfl (fun K hK=>?_)
   go_wp2_with fail
   refine HK.out.mono ?_
   rintro e v5 ⟨vc,rfl,hr5,hb5⟩
   have HB5:=zN (HB4.out.trans (hb5.mono HB4.out.size))
   have hS5:PlC v5 P 0 840 0 0∧PlC v5 (P+1) 0 315 525 0:=⟨hS4.1.bl hb5,hS4.2.bl hb5⟩
   have HR5:=zN hr5
   clear hb5 hr5 HK
   refine hK _ _ ⟨hS5,hR _ _ ?_⟩;clear hK K hR R
   repeat (refine zeX (fun R hR=>?_);(first|refine zaX (by first|rfl|(rw[HO.out];rfl)) (by simp only[zA,zB,zC,zD];rfl) ?_|refine zbX (by first|rfl|(rw[HO.out];rfl)) rfl (by first|exact .inl rfl|exact .inr rfl) (by simp only[zE,zF,zG,zH];rfl) (by simp only[zA,zB,zC,zD];rfl) ?_|refine zcX (by first|rfl|(rw[HO.out];rfl)) rfl rfl (by simp only[zE,zF,zG,zH];rfl) (by simp only[zA,zB,zC,zD];rfl) ?_|(refine zdX (by first|rfl|(rw[HO.out];rfl)) rfl rfl rfl ?_;apply zEx;apply zEx;refine⟨fun w' hS K hK=>?_,?_,?_⟩;(focus (obtain⟨⟨x0,x1,x2,x3⟩,⟨y0,y1,y2,y3⟩⟩:=hS;go_wp2;exact hK _ _ (by simp only[zl,zG,zH];first|exact zf (by omega)|exact zg (by omega)|exact zh (by omega)|exact zi (by omega)|exact zj (by omega)|exact zk (by omega)|exact RX.bneB _|rfl) rfl));(focus (simp only[zA,zB,zC,zD];rfl))));refine hR _ _ ?_;clear hR R)
   refine RX.wpL_nil (hQR _ _ (hS5) ?_);clear hQR QR HO OPS
   go_wp2
   go_meet
   case rel=>exact⟨rfl,rfl,rfl,rfl,HR1.out.below HB5.out,HR5.out,hS5.1,hS5.2,HB0.out.trans (HB5.out.mono HB0.out.size)⟩
  case rest=>
   clear HC0 HB0 HR1
   obtain⟨rfl,rfl,rfl,rfl,hr1,hr2,hp1,hq1,hb1⟩:=hcut
   obtain⟨p3,c3,rfl,hV3⟩:=hr1.at' (n:=2) rfl
   obtain⟨p5,c5,rfl,hV5⟩:=hr2.at' (n:=1) rfl
   have HV3:=zN hV3
   have HV5:=zN hV5
   have HB0:=zN hb1
   have HC0:Hid (PlC wc P 0 840 0 0∧PlC wc (P+1) 0 315 525 0):=zN ⟨hp1,hq1⟩
   clear hr1 hr2 hp1 hq1 hb1 hV3 hV5
   go_wp2_with fail
   generalize wc=w0 at *
   have hSD:PlC w0.drew P 0 840 0 0∧PlC w0.drew (P+1) 0 315 525 0:=⟨HC0.out.1.bl (zBd (zBr _ _)),HC0.out.2.bl (zBd (zBr _ _))⟩
   have HBD:Hid (Below w0.heap.size w0 w0.drew):=zN (zBd (zBr _ _))
   clear HC0
   refine RX.region RX.fN (fun w'=>PlC w' P 0 840 0 0∧PlC w' (P+1) 0 315 525 0) (by kernel_rfl) (by kernel_rfl) (hSD) (fun OPS HO QR hQR=>?_)
   repeat (refine zeX (fun R hR=>?_);(first|refine zaX (by first|rfl|(rw[HO.out];rfl)) (by simp only[zA,zB,zC,zD];rfl) ?_|refine zbX (by first|rfl|(rw[HO.out];rfl)) rfl (by first|exact .inl rfl|exact .inr rfl) (by simp only[zE,zF,zG,zH];rfl) (by simp only[zA,zB,zC,zD];rfl) ?_|refine zcX (by first|rfl|(rw[HO.out];rfl)) rfl rfl (by simp only[zE,zF,zG,zH];rfl) (by simp only[zA,zB,zC,zD];rfl) ?_|(refine zdX (by first|rfl|(rw[HO.out];rfl)) rfl rfl rfl ?_;apply zEx;apply zEx;refine⟨fun w' hS K hK=>?_,?_,?_⟩;(focus (obtain⟨⟨x0,x1,x2,x3⟩,⟨y0,y1,y2,y3⟩⟩:=hS;go_wp2;exact hK _ _ (by simp only[zl,zG,zH];first|exact zf (by omega)|exact zg (by omega)|exact zh (by omega)|exact zi (by omega)|exact zj (by omega)|exact zk (by omega)|exact RX.bneB _|rfl) rfl));(focus (simp only[zA,zB,zC,zD];rfl))));refine hR _ _ ?_;clear hR R)
   refine zeX (fun R hR=>?_)
   refine zgX (by first|rfl|(rw[HO.out];rfl)) rfl (fun K hK=>?_)
   go_wp2
   have hb1:Below w0.drew.heap.size w0.drew (w0.drew.alloc (.cells #[.int .i64 0,.int .i64 2] 3)):=(zBr _ _).alloc (Nat.le_refl _) _
   have HB1:=zN (HBD.out.trans (hb1.mono HBD.out.size))
   have hS1:PlC (w0.drew.alloc (.cells #[.int .i64 0,.int .i64 2] 3)) P 0 840 0 0∧PlC (w0.drew.alloc (.cells #[.int .i64 0,.int .i64 2] 3)) (P+1) 0 315 525 0:=⟨hSD.1.bl hb1,hSD.2.bl hb1⟩
   have hU1:VecAt (w0.drew.alloc (.cells #[.int .i64 0,.int .i64 2] 3)) (some ⟨w0.heap.size,0,none⟩) [0,2]:=⟨w0.heap.size,0,fun _=>rfl,fun j hj=>by
    have:j=0∨j=1:=by simp at hj;omega
    rcases this with rfl|rfl<;>simp[zO,zJ]⟩
   have HK1:=zN (kintsEq p3 (some ⟨w0.heap.size,0,none⟩) [0,2] c3 2 2 _ rfl (HV3.out.below HB1.out) hU1 (by omega))
   clear hb1 hU1
   refine⟨hS1,hR _ _ ?_⟩;clear hR R
   repeat (refine zeX (fun R hR=>?_);(first|refine zaX (by first|rfl|(rw[HO.out];rfl)) (by simp only[zA,zB,zC,zD];rfl) ?_|refine zbX (by first|rfl|(rw[HO.out];rfl)) rfl (by first|exact .inl rfl|exact .inr rfl) (by simp only[zE,zF,zG,zH];rfl) (by simp only[zA,zB,zC,zD];rfl) ?_|refine zcX (by first|rfl|(rw[HO.out];rfl)) rfl rfl (by simp only[zE,zF,zG,zH];rfl) (by simp only[zA,zB,zC,zD];rfl) ?_|(refine zdX (by first|rfl|(rw[HO.out];rfl)) rfl rfl rfl ?_;apply zEx;apply zEx;refine⟨fun w' hS K hK=>?_,?_,?_⟩;(focus (obtain⟨⟨x0,x1,x2,x3⟩,⟨y0,y1,y2,y3⟩⟩:=hS;go_wp2;exact hK _ _ (by simp only[zl,zG,zH];first|exact zf (by omega)|exact zg (by omega)|exact zh (by omega)|exact zi (by omega)|exact zj (by omega)|exact zk (by omega)|exact RX.bneB _|rfl) rfl));(focus (simp only[zA,zB,zC,zD];rfl))));refine hR _ _ ?_;clear hR R)
   refine zeX (fun R hR=>?_)
   refine zgX (by first|rfl|(rw[HO.out];rfl)) rfl (fun K hK=>?_)
   go_wp2_with fail
   refine HK1.out.mono ?_
   rintro e v2 ⟨rfl,hb2⟩
   have HB2:=zN (HB1.out.trans (hb2.mono HB1.out.size))
   have hS2:PlC v2 P 0 840 0 0∧PlC v2 (P+1) 0 315 525 0:=⟨hS1.1.bl hb2,hS1.2.bl hb2⟩
   clear hb2 HK1
   refine hK _ _ ⟨hS2,hR _ _ ?_⟩;clear hK K hR R
   repeat (refine zeX (fun R hR=>?_);(first|refine zaX (by first|rfl|(rw[HO.out];rfl)) (by simp only[zA,zB,zC,zD];rfl) ?_|refine zbX (by first|rfl|(rw[HO.out];rfl)) rfl (by first|exact .inl rfl|exact .inr rfl) (by simp only[zE,zF,zG,zH];rfl) (by simp only[zA,zB,zC,zD];rfl) ?_|refine zcX (by first|rfl|(rw[HO.out];rfl)) rfl rfl (by simp only[zE,zF,zG,zH];rfl) (by simp only[zA,zB,zC,zD];rfl) ?_|(refine zdX (by first|rfl|(rw[HO.out];rfl)) rfl rfl rfl ?_;apply zEx;apply zEx;refine⟨fun w' hS K hK=>?_,?_,?_⟩;(focus (obtain⟨⟨x0,x1,x2,x3⟩,⟨y0,y1,y2,y3⟩⟩:=hS;go_wp2;exact hK _ _ (by simp only[zl,zG,zH];first|exact zf (by omega)|exact zg (by omega)|exact zh (by omega)|exact zi (by omega)|exact zj (by omega)|exact zk (by omega)|exact RX.bneB _|rfl) rfl));(focus (simp only[zA,zB,zC,zD];rfl))));refine hR _ _ ?_;clear hR R)
   refine zeX (fun R hR=>?_)
   refine zgX (by first|rfl|(rw[HO.out];rfl)) rfl (fun K hK=>?_)
   go_wp2
   have hb3:Below v2.heap.size v2 (v2.alloc (.cells #[.int .i64 1] 3)):=(zBr _ _).alloc (Nat.le_refl _) _
   have HB3:=zN (HB2.out.trans (hb3.mono HB2.out.size))
   have hS3:PlC (v2.alloc (.cells #[.int .i64 1] 3)) P 0 840 0 0∧PlC (v2.alloc (.cells #[.int .i64 1] 3)) (P+1) 0 315 525 0:=⟨hS2.1.bl hb3,hS2.2.bl hb3⟩
   have hU3:VecAt (v2.alloc (.cells #[.int .i64 1] 3)) (some ⟨v2.heap.size,0,none⟩) [1]:=⟨v2.heap.size,0,fun _=>rfl,fun j hj=>by
    have:j=0:=by simp at hj;omega
    subst this;simp[zO,zJ]⟩
   have HK3:=zN (kintsEq p5 (some ⟨v2.heap.size,0,none⟩) [1] c5 1 1 _ rfl (HV5.out.below HB3.out) hU3 (by omega))
   clear hb3 hU3
   refine⟨hS3,hR _ _ ?_⟩;clear hR R
   repeat (refine zeX (fun R hR=>?_);(first|refine zaX (by first|rfl|(rw[HO.out];rfl)) (by simp only[zA,zB,zC,zD];rfl) ?_|refine zbX (by first|rfl|(rw[HO.out];rfl)) rfl (by first|exact .inl rfl|exact .inr rfl) (by simp only[zE,zF,zG,zH];rfl) (by simp only[zA,zB,zC,zD];rfl) ?_|refine zcX (by first|rfl|(rw[HO.out];rfl)) rfl rfl (by simp only[zE,zF,zG,zH];rfl) (by simp only[zA,zB,zC,zD];rfl) ?_|(refine zdX (by first|rfl|(rw[HO.out];rfl)) rfl rfl rfl ?_;apply zEx;apply zEx;refine⟨fun w' hS K hK=>?_,?_,?_⟩;(focus (obtain⟨⟨x0,x1,x2,x3⟩,⟨y0,y1,y2,y3⟩⟩:=hS;go_wp2;exact hK _ _ (by simp only[zl,zG,zH];first|exact zf (by omega)|exact zg (by omega)|exact zh (by omega)|exact zi (by omega)|exact zj (by omega)|exact zk (by omega)|exact RX.bneB _|rfl) rfl));(focus (simp only[zA,zB,zC,zD];rfl))));refine hR _ _ ?_;clear hR R)
   refine zeX (fun R hR=>?_)
   refine zgX (by first|rfl|(rw[HO.out];rfl)) rfl (fun K hK=>?_)
   go_wp2_with fail
   refine HK3.out.mono ?_
   rintro e v4 ⟨rfl,hb4⟩
   have HB4:=zN (HB3.out.trans (hb4.mono HB3.out.size))
   have hS4:PlC v4 P 0 840 0 0∧PlC v4 (P+1) 0 315 525 0:=⟨hS3.1.bl hb4,hS3.2.bl hb4⟩
   clear hb4 HK3
   refine hK _ _ ⟨hS4,hR _ _ ?_⟩;clear hK K hR R
   repeat (refine zeX (fun R hR=>?_);(first|refine zaX (by first|rfl|(rw[HO.out];rfl)) (by simp only[zA,zB,zC,zD];rfl) ?_|refine zbX (by first|rfl|(rw[HO.out];rfl)) rfl (by first|exact .inl rfl|exact .inr rfl) (by simp only[zE,zF,zG,zH];rfl) (by simp only[zA,zB,zC,zD];rfl) ?_|refine zcX (by first|rfl|(rw[HO.out];rfl)) rfl rfl (by simp only[zE,zF,zG,zH];rfl) (by simp only[zA,zB,zC,zD];rfl) ?_|(refine zdX (by first|rfl|(rw[HO.out];rfl)) rfl rfl rfl ?_;apply zEx;apply zEx;refine⟨fun w' hS K hK=>?_,?_,?_⟩;(focus (obtain⟨⟨x0,x1,x2,x3⟩,⟨y0,y1,y2,y3⟩⟩:=hS;go_wp2;exact hK _ _ (by simp only[zl,zG,zH];first|exact zf (by omega)|exact zg (by omega)|exact zh (by omega)|exact zi (by omega)|exact zj (by omega)|exact zk (by omega)|exact RX.bneB _|rfl) rfl));(focus (simp only[zA,zB,zC,zD];rfl))));refine hR _ _ ?_;clear hR R)
   refine zeX (fun R hR=>?_)
   refine zgX (by first|rfl|(rw[HO.out];rfl)) rfl (fun K hK=>?_)
   go_wp2_with fail
   refine (at_A 0 _).mono ?_
   rintro e v5 ⟨rfl,hb5⟩
   have HB5:=zN (HB4.out.trans (hb5.mono HB4.out.size))
   have hS5:PlC v5 P 0 840 0 0∧PlC v5 (P+1) 0 315 525 0:=⟨hS4.1.bl hb5,hS4.2.bl hb5⟩
   clear hb5
   refine hK _ _ ⟨hS5,hR _ _ ?_⟩;clear hK K hR R
   repeat (refine zeX (fun R hR=>?_);(first|refine zaX (by first|rfl|(rw[HO.out];rfl)) (by simp only[zA,zB,zC,zD];rfl) ?_|refine zbX (by first|rfl|(rw[HO.out];rfl)) rfl (by first|exact .inl rfl|exact .inr rfl) (by simp only[zE,zF,zG,zH];rfl) (by simp only[zA,zB,zC,zD];rfl) ?_|refine zcX (by first|rfl|(rw[HO.out];rfl)) rfl rfl (by simp only[zE,zF,zG,zH];rfl) (by simp only[zA,zB,zC,zD];rfl) ?_|(refine zdX (by first|rfl|(rw[HO.out];rfl)) rfl rfl rfl ?_;apply zEx;apply zEx;refine⟨fun w' hS K hK=>?_,?_,?_⟩;(focus (obtain⟨⟨x0,x1,x2,x3⟩,⟨y0,y1,y2,y3⟩⟩:=hS;go_wp2;exact hK _ _ (by simp only[zl,zG,zH];first|exact zf (by omega)|exact zg (by omega)|exact zh (by omega)|exact zi (by omega)|exact zj (by omega)|exact zk (by omega)|exact RX.bneB _|rfl) rfl));(focus (simp only[zA,zB,zC,zD];rfl))));refine hR _ _ ?_;clear hR R)
   refine zeX (fun R hR=>?_)
   refine zgX (by first|rfl|(rw[HO.out];rfl)) rfl (fun K hK=>?_)
   go_wp2_with fail
   refine (at_B 300 _).mono ?_
   rintro e v6 ⟨rfl,hb6⟩
   have HB6:=zN (HB5.out.trans (hb6.mono HB5.out.size))
   have hS6:PlC v6 P 0 840 0 0∧PlC v6 (P+1) 0 315 525 0:=⟨hS5.1.bl hb6,hS5.2.bl hb6⟩
   clear hb6
   refine hK _ _ ⟨hS6,hR _ _ ?_⟩;clear hK K hR R
   repeat (refine zeX (fun R hR=>?_);(first|refine zaX (by first|rfl|(rw[HO.out];rfl)) (by simp only[zA,zB,zC,zD];rfl) ?_|refine zbX (by first|rfl|(rw[HO.out];rfl)) rfl (by first|exact .inl rfl|exact .inr rfl) (by simp only[zE,zF,zG,zH];rfl) (by simp only[zA,zB,zC,zD];rfl) ?_|refine zcX (by first|rfl|(rw[HO.out];rfl)) rfl rfl (by simp only[zE,zF,zG,zH];rfl) (by simp only[zA,zB,zC,zD];rfl) ?_|(refine zdX (by first|rfl|(rw[HO.out];rfl)) rfl rfl rfl ?_;apply zEx;apply zEx;refine⟨fun w' hS K hK=>?_,?_,?_⟩;(focus (obtain⟨⟨x0,x1,x2,x3⟩,⟨y0,y1,y2,y3⟩⟩:=hS;go_wp2;exact hK _ _ (by simp only[zl,zG,zH];first|exact zf (by omega)|exact zg (by omega)|exact zh (by omega)|exact zi (by omega)|exact zj (by omega)|exact zk (by omega)|exact RX.bneB _|rfl) rfl));(focus (simp only[zA,zB,zC,zD];rfl))));refine hR _ _ ?_;clear hR R)
   refine zeX (fun R hR=>?_)
   refine zgX (by first|rfl|(rw[HO.out];rfl)) rfl (fun K hK=>?_)
   go_wp2_with fail
   refine (exPlaus v6 ((HT.out.below HB0.out).below HB6.out)).mono ?_
   rintro e v7 ⟨rfl,hb7⟩
   have HB7:=zN (HB6.out.trans (hb7.mono HB6.out.size))
   have hS7:PlC v7 P 0 840 0 0∧PlC v7 (P+1) 0 315 525 0:=⟨hS6.1.bl hb7,hS6.2.bl hb7⟩
   clear hb7
   refine hK _ _ ⟨hS7,hR _ _ ?_⟩;clear hK K hR R
   repeat (refine zeX (fun R hR=>?_);(first|refine zaX (by first|rfl|(rw[HO.out];rfl)) (by simp only[zA,zB,zC,zD];rfl) ?_|refine zbX (by first|rfl|(rw[HO.out];rfl)) rfl (by first|exact .inl rfl|exact .inr rfl) (by simp only[zE,zF,zG,zH];rfl) (by simp only[zA,zB,zC,zD];rfl) ?_|refine zcX (by first|rfl|(rw[HO.out];rfl)) rfl rfl (by simp only[zE,zF,zG,zH];rfl) (by simp only[zA,zB,zC,zD];rfl) ?_|(refine zdX (by first|rfl|(rw[HO.out];rfl)) rfl rfl rfl ?_;apply zEx;apply zEx;refine⟨fun w' hS K hK=>?_,?_,?_⟩;(focus (obtain⟨⟨x0,x1,x2,x3⟩,⟨y0,y1,y2,y3⟩⟩:=hS;go_wp2;exact hK _ _ (by simp only[zl,zG,zH];first|exact zf (by omega)|exact zg (by omega)|exact zh (by omega)|exact zi (by omega)|exact zj (by omega)|exact zk (by omega)|exact RX.bneB _|rfl) rfl));(focus (simp only[zA,zB,zC,zD];rfl))));refine hR _ _ ?_;clear hR R)
   refine RX.wpL_nil (hQR _ _ (hS7) ?_);clear hQR QR HO OPS
   go_wp2
   go_ret
   exact⟨rfl,HB0.out.trans (HB7.out.mono HB0.out.size)⟩
theorem RpOk.name_le {one:Bool} {r:Rep} (h:RpOk one r):r.name.size≤maxLen:=by
 rcases h.nm with e|e<;>rw[e]<;>exact (by decide:(5:Nat)≤maxLen)
theorem VecR.gr {w w':World} {p:Option Addr} {L:List Rep} {g:Nat} (h:VecR w p L) (hg:w.grownBy w' (some g)) (hne:∀ a,p=some a→0 < L.length→a.block≠g):VecR w' p L:=by
 rcases Nat.eq_zero_or_pos L.length with h0|h0
 ·obtain rfl:=List.length_eq_zero_iff.1 h0
  exact VecR.nil _ _
 ·obtain⟨b,o,h1,h2⟩:=h
  have hb:=hne _ (h1 h0) h0
  exact⟨b,o,h1,fun k hk=>(h2 k hk).of_block (hg.block b (h2 k hk).lt (fun e=>hb (by injection e)))⟩
theorem chain_full {P:Nat→Nat→Bool} {n:Nat} (h:∀ i,i+1 < n→P i (i+1)=true):(chainP P n).length=n:=by
 have hv:∀ m k,k+m≤n→Valid P n (List.range' k m):=by
  intro m
  induction m with
  |zero=>intro k _;trivial
  |succ m ih=>
   intro k hk
   cases m with
   |zero=>exact⟨by omega,trivial,trivial⟩
   |succ m=>exact⟨by omega,⟨by omega,h k (by omega)⟩,ih (k+1) (by omega)⟩
 have h1:=(chain_facts P n).2.1 _ (hv n 0 (by omega))
 have h2:=chain_len P n
 rw[List.length_range'] at h1
 omega
end Go.Proofs.YtbomggfklfbnkaaGreatDoor
