import Derived.Test.YtbomggfklfbnkaaGreatDoorKTrkN
set_option maxRecDepth 100000
set_option maxHeartbeats 8000000
set_option linter.unusedSimpArgs false
set_option linter.unusedVariables false
namespace Go.Proofs.YtbomggfklfbnkaaGreatDoor
open Go.RowKit Go.Grid Go.Maps Go.Sort Go.Shelf Go.Chain
theorem RpOk.oneN {r:Rep} (h:RpOk true r):ValR r∧movB r=true∧r.name=dStr:=by
 obtain⟨h1,h2,_⟩:=h.one rfl
 exact⟨h.valR,by unfold movB;rw[h1];rfl,h2⟩
theorem ren_ok {t:ByteArray} {l:List Rep} (h:∀ r∈l,RpOk true r):∀ r∈ren t l,ValR r∧movB r=true∧r.name=t:=by
 intro r hr
 unfold ren at hr
 rw[List.mem_map] at hr
 obtain⟨q,hq,rfl⟩:=hr
 obtain⟨h1,h2,_⟩:=(h q hq).oneN
 exact⟨h1,h2,rfl⟩
theorem ren_asc {t:ByteArray} {l:List Rep} (h:l.Pairwise (fun r s=>r.time < s.time)):(ren t l).Pairwise (fun r s=>r.time < s.time):=by
 unfold ren
 rw[List.pairwise_map]
 exact h
theorem ren_rd {t:ByteArray} {l:List Rep} (h:∀ r∈l,RdOk r):∀ r∈ren t l,RdOk r:=by
 intro r hr
 unfold ren at hr
 rw[List.mem_map] at hr
 obtain⟨q,hq,rfl⟩:=hr
 exact h q hq
theorem soneL_mem {n:Int} {l:List Rep} {i:Nat} (h:i∈soneL n l):i < l.length:=by
 unfold soneL at h
 rw[List.mem_filter,List.mem_range] at h
 exact h.1
theorem qV_natI (a:List Nat):(natI a).map (Value.int .i64)=qV a:=by simp[natI,qV]
theorem RepRow.soft {w:World} {base n cap:Nat} {p:Option Addr} {L:List Rep} (h:RepRow w base (.slice p n cap) L) (h0:0 < L.length) {b:Nat} (hp:p=some ⟨b,0,none⟩):∀ j,w.frozen? ⟨b,j,none⟩=false:=by
 subst hp
 rcases h.2 with ⟨_,h2⟩|⟨g,cap,cur,h1,h2,h3,h4,_⟩
 ·omega
 ·have e:b=g:=by
   injection h1 with e
   injection e with e
   injection e
  subst e
  intro j
  simp[World.frozen?,h3]
theorem names_law (W:World) (q:Option Addr) (cap:Nat) (L:List Int) (hV:VecAt W q L) (hI:I64L L) (hl:L.length≤cap) (hc:cap≤9223372036854775807) (hT:HasTab W) :
  Calls Tryz.prog 7 #[.slice q L.length cap] W fun e w'=>e=.returned (.bool true)∧Below W.heap.size W w':=by
 go_enter Tryz.func7,Tryz.ntmps7
 go_wp2_with fail
 refine (knew_any q cap L W hV hI hl hc).mono ?_
 rintro e w1 ⟨rfl,hb,b,hblt,hs⟩
 clear hV hI
 have HT:=zN hT
 generalize min L.length 2000=N at *
 obtain⟨g,hg⟩:∃ g,g=W.heap.size:=⟨_,rfl⟩
 rw[←hg] at hs hblt ⊢
 have HG:=zN hg
 have hgw:=hs.lt
 clear hg hT hl hc
 go_wp2_with fail
 refine (reports_any true 5 (by omega) w1 g b N 0 hs (fun h0=>by have:=hblt h0;have:=hb.size;have:=HG.out;omega)).mono ?_
 rintro e w2 ⟨v1,l,rfl,hrow1,hok1,hasc1,hlen1,hg2,i2,hs2⟩
 replace hb:=hb.grown hg2 hb.size (fun k hk=>by injection hk with hk;have:=HG.out;omega)
 have hs12:=hg2.size
 have hbW:=hb.size
 have hg2lt:g < w2.heap.size:=by omega
 have hb2lt:0 < N→b < w2.heap.size:=fun h0=>by have:=hblt h0;have:=HG.out;omega
 obtain⟨p1,c1,rfl,hcp1,hV1,hp1⟩:=hrow1.form (fun r hr=>(hok1 r hr).rdOk)
 clear hs hg2
 go_wp2_with fail
 refine (reports_any true 5 (by omega) w2 g b N i2 hs2 hb2lt).mono ?_
 rintro e w3 ⟨v2,m,rfl,hrow2,hok2,hasc2,hlen2,hg3,i3,hs3⟩
 replace hV1:=hV1.gr hg3 (fun a ha h0=>by
  obtain⟨b',e',h2,_⟩:=hp1 h0
  rw[e'] at ha
  injection ha with ha
  rw[←ha]
  show b'≠g
  omega)
 obtain⟨p2,c2,rfl,hcp2,hV2,hp2⟩:=hrow2.form (fun r hr=>(hok2 r hr).rdOk)
 replace hb:=hb.grown hg3 hb.size (fun k hk=>by injection hk with hk;have:=HG.out;omega)
 have hs23:=hg3.size
 have HROW:=zN hrow2
 have HOK1:=zN hok1
 have HOK2:=zN hok2
 have HASC1:=zN hasc1
 have HASC2:=zN hasc2
 have HB3:=zN hb
 have HS3:=zN hs3
 have HV1:=zN hV1
 have HV2:=zN hV2
 have HP2:=zN hp2
 have HP1:=zN (show ∀ a,p1=some a→0 < l.length→a.block < w2.heap.size∧a.block≠g from fun a ha h0=>by
  obtain⟨b',e',h3,h2⟩:=hp1 h0
  rw[e'] at ha
  injection ha with ha
  rw[←ha]
  exact⟨h2,by show b'≠g;omega⟩)
 have HBL:=zN (And.intro hg2lt hb2lt)
 have hW2:W.heap.size≤w2.heap.size:=hbW
 obtain⟨M,hM⟩:∃ M,M=l.length:=⟨_,rfl⟩
 obtain⟨M2,hM2⟩:∃ M2,M2=m.length:=⟨_,rfl⟩
 have hM5:M≤5:=by rw[hM];exact hlen1
 have hM25:M2≤5:=by rw[hM2];exact hlen2
 have HM:=zN (And.intro hM hM2)
 rw[←hM,←hM2]
 clear hrow1 hrow2 hok1 hok2 hasc1 hasc2 hg3 hs2 hs3 hb hV1 hV2 hp1 hp2 hcp1 hcp2 hlen1 hlen2 hblt hM hM2 hgw hs12 hbW hg2lt hb2lt
 clear w1
 go_wp2
 go_loopw [25] (fun v25 wr=>∃ k:Nat,k≤M2∧v25=.int .i64 (k:Int)∧VecR wr p2 (renK eStr k m)∧(∀ b2 j,0 < M2→p2=some ⟨b2,0,none⟩→wr.frozen? ⟨b2,j,none⟩=false)∧Below w2.heap.size w3 wr) (fun v25 _=>M2-(intOf v25).toNat)
 case atStart=>exact⟨0,by omega,rfl,HV2.out,fun b2 j h0 hp=>HROW.out.soft (by rw[←HM.out.2];exact h0) hp j,zBr _ _⟩
 case round=>
  obtain⟨k,hkM,rfl,hv,hf,hb⟩:=hrel
  by_cases hk:k < M2
  ·have hdk:decide ((k:Int) < (M2:Int))=true:=zDt (by omega)
   obtain⟨b2,e2,hb2,hb3⟩:=HP2.out (by rw[←HM.out.2];omega)
   have hi0:(0:Int)≤(k:Int):=by omega
   have hi1:(k:Int) < (M2:Int):=by omega
   rw[e2] at hv hf ⊢
   have HB2:=zN hb2
   have hff:=hf b2 (k*8+1) (by omega) rfl
   have hkm:k < m.length:=by rw[←HM.out.2];exact hk
   obtain⟨s0,hs0⟩:∃ s0:ByteArray,wr.cell? ⟨b2,k*8+1,none⟩=some (.string s0):=by
    have hl:=renK_len eStr (Nat.le_of_lt hkm)
    obtain⟨b',o',e1,_,h3⟩:=hv.cell (by rw[hl];omega)
    injection e1 with e1
    injection e1 with e1 e3
    subst e1 e3
    have:=(h3 k (by rw[hl];exact hkm)).c1
    rw[Nat.zero_add] at this
    exact⟨_,this⟩
   have HKM:=zN hkm
   have HF:=zN hf
   have HV:=zN hv
   have HB:=zN hb
   clear e2 hb2 hb3 hf hv hb hkm
   go_wp2
   go_roundw
   case rel=>
    refine⟨k+1,by omega,by go_num,HV.out.name HKM.out,fun b3 j h0 hp=>?_,HB.out.trans ?_⟩
    ·rw[World.frozen?_setCell];exact HF.out b3 j h0 hp
    ·exact zBs (p:=⟨b2,k*8+1,none⟩) (zBr _ _) HB2.out _
   case measure=>simp[intOf]<;>omega
  ·have hdk:decide ((k:Int) < (M2:Int))=false:=zDf (by omega)
   have hkM2:k=M2:=by omega
   have HV2':Hid (VecR wr p2 (ren eStr m)):=zN (by rw[←renK_all,←HM.out.2,←hkM2];exact hv)
   have HV1':Hid (VecR wr p1 l):=zN (by
    rcases Nat.eq_zero_or_pos l.length with h0|h0
    ·rw[List.length_eq_zero_iff.1 h0];exact VecR.nil _ _
    ·exact HV1.out.turn (fun a ha=>hb.block _ (HP1.out a ha h0).1))
   have hs:=HS3.out.kept (hb.block _ HBL.out.1) (fun h0=>hb.block _ (HBL.out.2 h0))
   have HBr:=zN (HB3.out.trans (hb.mono hW2))
   have hsz3:=hb.size
   have hgr:=hs.lt
   have HS:=zN hs
   clear hkM2 hv hf hb hkM hs
   go_wp2_with fail
   have hsA:Below wr.heap.size wr (wr.alloc (.cells #[.int .i64 0,.int .i64 4,.int .i64 24] 3)):=(by repeat (first|(with_reducible first|assumption|exact zBr _ _|refine zBs ?_ (by first|omega|(simp<;>omega)) _|refine zBa ?_ (by first|omega|(simp<;>omega)) _|apply zBd)|assumption))
   refine (pick_any _ g b N i3 wr.heap.size [0,4,24] 3 3 rfl (by omega) (by omega) (HS.out.below hsA) (fun j hj=>by
    match j,hj with
    |0,_=>exact (by simp[zO,zJ,zQ])
    |1,_=>exact (by simp[zO,zJ,zQ])
    |2,_=>exact (by simp[zO,zJ,zQ])
    |j+3,hj=>simp at hj<;>omega) (by omega)).mono ?_
   rintro e w4 ⟨n,rfl,hn,hg4,i4,hs4⟩
   have hn2:0≤n∧n≤1000:=by
    simp only[List.mem_cons,List.not_mem_nil,or_false] at hn
    omega
   obtain⟨hn0,hn1⟩:=hn2
   have hszA:=hsA.size
   have hsz4:=hg4.size
   have HV1w:=zN ((HV1'.out.below hsA).gr hg4 (fun a ha h0=>(HP1.out a ha h0).2))
   have HV2w:=zN ((HV2'.out.below hsA).gr hg4 (fun a ha h0=>by
    obtain⟨b',e',h3,_⟩:=HP2.out (by rw[ren_len] at h0;exact h0)
    rw[e'] at ha
    injection ha with ha
    rw[←ha]
    have:=HBL.out.1
    show b'≠g
    omega))
   have HB4:=zN ((HBr.out.trans (hsA.mono (by have:=HBr.out.size;omega))).grown hg4 (by have:=HBr.out.size;omega) (fun k hk=>by injection hk with hk;have:=HG.out;omega))
   clear hn hg4 hs4 hsA
   have h0w:w2.heap.size≤w4.heap.size:=by omega
   have h03:w3.heap.size≤w4.heap.size:=by omega
   obtain⟨e1,e2⟩:=su_one hn0 hn1 (fun r hr=>(HOK1.out r hr).oneN) HASC1.out
   have HC1:=zN (Suspects_any n p1 c1 M l HM.out.1.symm (by omega) (fun r hr=>(HOK1.out r hr).name_le) w4 (HT.out.below HB4.out) HV1w.out (fun a ha h0=>by have:=(HP1.out a ha h0).1;omega))
   rw[e1,e2] at HC1
   obtain⟨ca,hca⟩:∃ ca,ca=soneL n l:=⟨_,rfl⟩
   have HCA:=zN hca
   rw[←hca] at HC1
   have hla:ca.length≤5:=by rw[hca];exact Nat.le_trans (soneL_len n l) (by have:=HM.out.1;omega)
   clear e1 e2 hca
   go_wp2_with fail
   refine HC1.out.mono ?_
   rintro e w5 ⟨v5,rfl,hq5,hb5⟩
   obtain⟨na,hna⟩:∃ na,na=ca.length:=⟨_,rfl⟩
   obtain⟨p5,c5,rfl,hv5⟩:=hq5.at' ((natI_len ca).trans hna.symm)
   rw[←hna] at hla
   have HNA:=zN hna
   have hsz5:=hb5.size
   have HB5:=zN (HB4.out.trans (hb5.mono (by have:=HB4.out.size;omega)))
   have HV15:=zN (HV1w.out.below hb5)
   have HV25:=zN (HV2w.out.below hb5)
   have HU5:=zN hv5
   clear hq5 hv5 hna hb5 HC1
   obtain⟨e1,e2⟩:=su_one hn0 hn1 (ren_ok HOK2.out (t:=eStr)) (ren_asc HASC2.out)
   have HC2:=zN (Suspects_any n p2 c2 M2 (ren eStr m) ((ren_len _ _).trans HM.out.2.symm) (by omega) (fun r hr=>by rw[(ren_ok HOK2.out r hr).2.2];decide) w5 (HT.out.below HB5.out) HV25.out (fun a ha h0=>by
    obtain⟨b',e',h3,h4⟩:=HP2.out (by rw[ren_len] at h0;exact h0)
    rw[e'] at ha
    injection ha with ha
    rw[←ha]
    show b' < w5.heap.size
    omega))
   rw[e1,e2] at HC2
   obtain⟨cb,hcb⟩:∃ cb,cb=soneL n (ren eStr m):=⟨_,rfl⟩
   have HCB:=zN hcb
   rw[←hcb] at HC2
   have hlb:cb.length≤5:=by rw[hcb];exact Nat.le_trans (soneL_len n _) (by rw[ren_len];have:=HM.out.2;omega)
   clear e1 e2 hcb
   go_wp2_with fail
   refine HC2.out.mono ?_
   rintro e w6 ⟨v6,rfl,hq6,hb6⟩
   obtain⟨nb,hnb⟩:∃ nb,nb=cb.length:=⟨_,rfl⟩
   obtain⟨p6,c6,rfl,hv6⟩:=hq6.at' ((natI_len cb).trans hnb.symm)
   rw[←hnb] at hlb
   have HNB:=zN hnb
   have hsz6:=hb6.size
   have HB6:=zN (HB5.out.trans (hb6.mono (by have:=HB5.out.size;omega)))
   have HV16:=zN (HV15.out.below hb6)
   have HV26:=zN (HV25.out.below hb6)
   have HU6:=zN (HU5.out.below hb6)
   have HX6:=zN hv6
   clear hq6 hv6 hnb hb6 HC2
   go_wp2_with (at_builtin;refine Hid.out ?_)
   refine zN ?_
   have hbA:Below w6.heap.size w6 (w6.alloc (.cells #[] 35)):=(by repeat (first|(with_reducible first|assumption|exact zBr _ _|refine zBs ?_ (by first|omega|(simp<;>omega)) _|refine zBa ?_ (by first|omega|(simp<;>omega)) _|apply zBd)|assumption))
   refine RX.wpl_appA (by rfl) elRep _ _ (by rfl) w6.heap.size (some ⟨w6.heap.size,0,none⟩) 0 0 [] (own_empty w6 35 8) (by rfl) p1 M c1 (l.flatMap rpc) (by rfl) (by rw[rps_len,←HM.out.1]) ((HV16.out.below hbA).news HM.out.1.symm) (rpc_one (fun r hr=>(HOK1.out r hr).rdOk)) (by omega) (by omega) (by simp) ?_
   intro v7 w7 hown7 hb7
   rw[Nat.zero_add,List.nil_append] at hown7
   obtain⟨p7,c7,rfl,hc7⟩:=own_slice hown7
   have hb67:=hbA.trans hb7
   have HB7:=zN (HB6.out.trans (hb67.mono (by have:=HB6.out.size;omega)))
   have hsz7:=hb67.size
   have HV27:=zN (HV26.out.below hb67)
   have HB67:=zN hb67
   have HO7:=zN hown7
   clear hb7 hown7 hbA hb67
   go_wp2_with (at_builtin;refine Hid.out ?_)
   refine zN ?_
   refine RX.wpl_appA (by rfl) elRep _ _ (by rfl) w6.heap.size p7 M c7 (l.flatMap rpc) HO7.out (by rfl) p2 M2 c2 ((ren eStr m).flatMap rpc) (by rfl) (by rw[rps_len,ren_len,←HM.out.2]) (HV27.out.news ((ren_len _ _).trans HM.out.2.symm)) (rpc_one (ren_rd (fun r hr=>(HOK2.out r hr).rdOk))) (by omega) (by omega) (by omega) ?_
   intro v8 w8 hown8 hb8
   have hrow8:RepRow w8 w6.heap.size v8 (l ++ ren eStr m):=by
    unfold RepRow
    rw[List.flatMap_append,List.length_append,ren_len,←HM.out.1,←HM.out.2]
    exact hown8
   obtain⟨p8,c8,rfl,hc8,hv8,hp8⟩:=hrow8.form (fun r hr=>by
    rcases List.mem_append.1 hr with h|h
    ·exact (HOK1.out r h).rdOk
    ·exact ren_rd (fun r hr=>(HOK2.out r hr).rdOk) r h)
   have hlen8:(l ++ ren eStr m).length=M+M2:=by rw[List.length_append,ren_len,←HM.out.1,←HM.out.2]
   rw[hlen8] at hp8 hc8 ⊢
   have HB8:=zN (HB7.out.trans (hb8.mono (by have:=HB6.out.size;omega)))
   have hsz8:=hb8.size
   have HU8:=zN (HU6.out.below (HB67.out.trans hb8))
   have HX8:=zN (HX6.out.below (HB67.out.trans hb8))
   obtain⟨e1,e2⟩:=su_two (s:=dStr) (t:=eStr) (by decide) hn0 hn1 (fun r hr=>(HOK1.out r hr).oneN) (ren_ok HOK2.out) HASC1.out (ren_asc HASC2.out)
   have HC3:=zN (Suspects_any n p8 c8 (M+M2) (l ++ ren eStr m) hlen8 (by omega) (fun r hr=>by
    rcases List.mem_append.1 hr with h|h
    ·exact (HOK1.out r h).name_le
    ·rw[(ren_ok HOK2.out r h).2.2];decide) w8 (HT.out.below HB8.out) hv8 (fun a ha h0=>by
    obtain⟨b',e',h3⟩:=hp8 (by omega)
    rw[e'] at ha
    injection ha with ha
    rw[←ha]
    exact h3.2))
   rw[e1,e2,←HCA.out,←HCB.out,←HM.out.1] at HC3
   clear e1 e2 hown8 hrow8 hv8 hp8 hlen8 hb8
   go_wp2_with fail
   refine HC3.out.mono ?_
   rintro e w9 ⟨v9,rfl,hq9,hb9⟩
   obtain⟨nc,hnc⟩:∃ nc,nc=(ca ++ cb.map (fun i=>M+i)).length:=⟨_,rfl⟩
   have hncab:nc=na+nb:=by rw[hnc,List.length_append,List.length_map,←HNA.out,←HNB.out]
   obtain⟨p9,c9,rfl,hv9⟩:=hq9.at' ((natI_len _).trans hnc.symm)
   have hsz9:=hb9.size
   have HB9:=zN (HB8.out.trans (hb9.mono (by have:=HB8.out.size;omega)))
   have HU9:=zN (HU8.out.below hb9)
   have HX9:=zN (HX8.out.below hb9)
   have HY9:=zN hv9
   have HNC:=zN (And.intro hnc hncab)
   clear hq9 hv9 hnc hncab hb9 HC3
   go_wp2_with (at_builtin;refine Hid.out ?_)
   refine zN ?_
   have hbA:Below w9.heap.size w9 (w9.alloc (.cells #[] 3)):=(by repeat (first|(with_reducible first|assumption|exact zBr _ _|refine zBs ?_ (by first|omega|(simp<;>omega)) _|refine zBa ?_ (by first|omega|(simp<;>omega)) _|apply zBd)|assumption))
   refine RX.wpl_appA (by rfl) elInt _ _ (by rfl) w9.heap.size (some ⟨w9.heap.size,0,none⟩) 0 0 [] (own_empty w9 3 1) (by rfl) p5 na c5 ((natI ca).map (Value.int .i64)) (by rfl) (by rw[List.length_map,natI_len,←HNA.out];omega) (vec_newsP (HU9.out.below hbA) ((natI_len _).trans HNA.out.symm)) (by simp[Value.oneCell']) (by omega) (by omega) (by simp) ?_
   intro v10 w10 hown10 hb10
   have hq10:QRow w10 w9.heap.size v10 ca:=by
    unfold QRow
    rw[←HNA.out,←qV_natI]
    simpa using hown10
   have hb910:=hbA.trans hb10
   clear hown10 hb10 hbA
   have hsz10:=hb910.size
   have HQ10:=zN hq10
   have HB10:=zN hb910
   clear hq10 hb910
   go_wp2
   clear hdk hk
   have hcb5:∀ j (h:j < cb.length),cb[j]≤5:=fun j h=>by
    have h1:cb[j]∈soneL n (ren eStr m):=by rw[←HCB.out];exact List.getElem_mem h
    have h2:=soneL_mem h1
    rw[ren_len,←HM.out.2] at h2
    omega
   have HC5:=zN hcb5
   clear hcb5
   generalize k=k0 at *
   generalize wr=W5 at *
   go_loopw [14,73] (fun v14 v73 wr=>∃ k:Nat,k≤nb∧v73=.int .i64 (k:Int)∧QRow wr w9.heap.size v14 (ca ++ (cb.take k).map (fun i=>M+i))∧Below w9.heap.size w9 wr) (fun _ v73 _=>nb-(intOf v73).toNat)
   case atStart=>exact⟨0,by omega,rfl,by rw[List.take_zero,List.map_nil,List.append_nil];exact HQ10.out,HB10.out⟩
   case round=>
    obtain⟨k,hkM,rfl,hq,hb⟩:=hrel
    by_cases hk:k < nb
    ·have hdk:decide ((k:Int) < (nb:Int))=true:=zDt (by omega)
     obtain⟨pu,cu,rfl,hcu⟩:=own_slice hq
     have hkc:k < cb.length:=by rw[←HNB.out];exact hk
     obtain⟨D,hD⟩:∃ D,D=ca ++ (cb.take k).map (fun i=>M+i):=⟨_,rfl⟩
     obtain⟨bb,o,rfl,_,hrp⟩:=(HX9.out.below hb).cell (by rw[natI_len];omega)
     have hri:=hrp k (by rw[natI_len];exact hkc)
     have e0:(natI cb)[k]'(by rw[natI_len];exact hkc)=(cb[k]:Int):=by simp[natI]
     have hi5:=HC5.out k hkc
     have hD2:Hid (ca ++ (cb.take (k+1)).map (fun i=>M+i)=D ++ [M+cb[k]]):=zN (by
      rw[hD,List.take_succ_eq_append_getElem hkc,List.map_append,List.append_assoc];rfl)
     rw[e0] at hri
     rw[←hD] at hq hcu ⊢
     generalize cb[k]=i at *
     have hDl:D.length≤10:=by
      rw[hD,List.length_append,List.length_map,List.length_take,←HNA.out];omega
     have hsz:=hb.size
     have hi0:(0:Int)≤(k:Int):=by omega
     have hi1:(k:Int) < (nb:Int):=by omega
     have hown:(wr.alloc (.cells #[.int .i64 ((M:Int)+(i:Int))] 3)).ownsRow w9.heap.size 3 1 (.slice pu D.length cu) D.length (qV D):=World.ownsRow.alloc hq _
     have HB:=zN hb
     clear hq hrp e0 hD hb hkc hcu
     go_wp2_with (refine RX.wpl_apq (by rfl) elInt _ _ (by rfl) w9.heap.size _ _ _ hown (by rfl) wr.heap.size _ 1 (by rfl) (heap_alloc_new _ _) (by rfl) (by simp[Value.oneCell']) (by omega) (by omega) (by simp;omega) ?_;intro v' w2' hown2 hb2 hg2 hat2)
     have HQ2:Hid (QRow w2' w9.heap.size v' (D ++ [M+i])):=zN (QRow.snoc (by
      have e1:((M+i:Nat):Int)=(M:Int)+(i:Int):=by omega
      rw[e1];exact hown2))
     have HB2:Hid (Below w9.heap.size w9 w2'):=zN ((HB.out.alloc hsz _).trans hb2)
     clear hown2 hb2 hg2 hat2 hown
     go_wp2
     go_roundw
     case rel=>exact⟨k+1,by omega,by go_num,by rw[hD2.out];exact HQ2.out,HB2.out⟩
     case measure=>simp[intOf]<;>omega
    ·have hdk:decide ((k:Int) < (nb:Int))=false:=zDf (by omega)
     have hkn:k=nb:=by omega
     rw[hkn,HNB.out,List.take_length] at hq
     obtain⟨p11,c11,rfl,hv11⟩:=hq.rd.at' ((natI_len _).trans HNC.out.1.symm)
     have HY11:=zN (HY9.out.below hb)
     have HV11:=zN hv11
     have HB11:=zN (HB9.out.trans (hb.mono (by have:=HB9.out.size;omega)))
     have hn10:nc≤1000:=by have:=HNC.out.2;omega
     clear hkn hq hv11 hb hkM
     go_wp2_with fail
     refine (kintsEq p9 p11 (natI (ca ++ cb.map (fun i=>M+i))) c9 c11 nc wr ((natI_len _).trans HNC.out.1.symm) HY11.out HV11.out hn10).mono ?_
     rintro e w12 ⟨rfl,hb12⟩
     have HB12:=zN (HB11.out.trans (hb12.mono (by have:=HB11.out.size;omega)))
     clear hb12
     go_wp2_with fail
     refine (awake12_any w12 (HT.out.below HB12.out)).mono ?_
     rintro e w13 ⟨rfl,hb13⟩
     have HB13:=zN (HB12.out.trans (hb13.mono (by have:=HB12.out.size;omega)))
     clear hb13
     go_wp2
     go_ret
     exact⟨rfl,HB13.out⟩
end Go.Proofs.YtbomggfklfbnkaaGreatDoor
