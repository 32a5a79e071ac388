import Derived.Test.YtednaajanciabaaGreatDoorKBVal
import Derived.Test.YtednaajanciabaaGreatDoorKLists
import Derived.Test.YtednaajanciabaaGreatDoorKRefB
import Derived.Test.YtednaajanciabaaGreatDoorKRLists
import Derived.Test.YtednaajanciabaaGreatDoorLaid
set_option maxRecDepth 100000
set_option maxHeartbeats 8000000
set_option linter.unusedSimpArgs false
set_option linter.unusedVariables false
namespace Go.Proofs.YtednaajanciabaaGreatDoor
open Go.RowKit Go.Grid
noncomputable def nodN (n:Nat) (p:Pl):Nat:=(best (Classical.epsilon (fun T=>IsLoc n p T))).1
theorem nodN_eq {n:Nat} {p:Pl} {T:List (Nat × Nat)} (h:IsLoc n p T):(best T).1=nodN n p:=by
 unfold nodN
 rw[IsLoc.unique h (Classical.epsilon_spec (p:=fun T=>IsLoc n p T) ⟨T,h⟩)]
def cloB (n:Nat) (a b:Nat):Bool:=a == b || (nextL n a).contains (b:Int)
theorem kcontains (v:Value) (zs:List Int) (x:Int) (w:World) (h:RdI w v zs) (hl:zs.length≤1000000):Calls Tryz.prog 65 #[v,.int .i64 x] w fun e w'=>e=.returned (.bool (zs.contains x))∧w=w':=by
 obtain⟨p,cap,rfl,hcap,b,o,hp,hcell⟩:=h
 rcases Nat.eq_zero_or_pos zs.length with h0|h0
 ·have hz:zs=[]:=List.length_eq_zero_iff.1 h0
  subst hz
  refine (Tryz.slices_Contains_int_empty p cap x w).mono ?_
  rintro e w' ⟨rfl,rfl⟩
  exact⟨rfl,rfl⟩
 ·rw[hp h0]
  refine (Tryz.slices_Contains_int b o zs.length cap zs x w (Nat.le_refl _) (by omega) (fun j hj=>?_)).mono ?_
  ·rw[hcell j hj,List.getD_eq_getElem?_getD,List.getElem?_eq_getElem hj];rfl
  ·rintro e w' ⟨rfl,rfl⟩
   rw[List.take_length]
   exact⟨rfl,rfl⟩
structure NearAt (w:World) (A B n g:Nat) (T:List Nat):Prop where
 a:∃ p cap,w.cell? ⟨A,0,none⟩=some (.slice p T.length cap)∧VecAt w p (natI T)
 b:w.cell? ⟨B,0,none⟩=some (.pointer (some ⟨g,0,none⟩))
 net:∃ N,w.cell? ⟨g,6,none⟩=some (.slice (some ⟨N,0,none⟩) (nodesL n).length (nodesL n).length)∧NextR w N (nodesL n).length (N+1) (nextL n)
 lt:∀ i (h:i < T.length),T[i] < (nodesL n).length
theorem NearAt.below {w w':World} {A B n g:Nat} {T:List Nat} (h:NearAt w A B n g T) (hb:Below w.heap.size w w'):NearAt w' A B n g T:=by
 obtain⟨p,cap,h1,h2⟩:=h.a
 obtain⟨N,h3,h4⟩:=h.net
 exact⟨⟨p,cap,zP hb h1,h2.below hb⟩,zP hb h.b,⟨N,zP hb h3,h4.below hb⟩,h.lt⟩
theorem near_any (A B n g:Nat) (T:List Nat) (h1:1≤n) (h8:n≤8) (i k:Nat) (hi:i < T.length) (hk:k < T.length) (hT:T.length≤1000000) (w:World) (hN:NearAt w A B n g T) :
  Calls Tryz.prog 64 #[.int .i64 (i:Int),.int .i64 (k:Int),.pointer (some ⟨A,0,none⟩),.pointer (some ⟨B,0,none⟩)] w fun e w'=>e=.returned (.bool (cloB n T[i] T[k]))∧Below w.heap.size w w':=by
 obtain⟨⟨p,cap,ca,hV⟩,cb,⟨N,cN,hR⟩,hlt⟩:=hN
 obtain⟨bb,o,rfl,hbl,hrp⟩:=hV.cell (by rw[natI_len];omega)
 have ei:(natI T)[i]'(by rw[natI_len];exact hi)=(T[i]:Int):=by simp[natI]
 have ek:(natI T)[k]'(by rw[natI_len];exact hk)=(T[k]:Int):=by simp[natI]
 have ci:=hrp i (by rw[natI_len];exact hi)
 have ck:=hrp k (by rw[natI_len];exact hk)
 rw[ei] at ci
 rw[ek] at ck
 have hia:=hlt i hi
 generalize T[i]=a at *
 generalize T[k]=b at *
 obtain⟨v,cv,hv⟩:=hR.row hia
 have hvl:=next_len h1 h8 a
 have hCC:=zN (fun w' (hb:Below w.heap.size w w')=>kcontains v (nextL n a) (b:Int) w' (hv.below hb) (by omega))
 obtain⟨q,cq,hve,_⟩:=hv
 obtain⟨M,hM⟩:∃ M,M=(nodesL n).length:=⟨_,rfl⟩
 rw[←hM] at cN hia
 have hM9:M≤1000000:=by rw[hM,nodes_len h1 h8];have:n*n≤64:=Nat.mul_le_mul h8 h8;have e:10*n*n=10*(n*n):=Nat.mul_assoc _ _ _;omega
 have hi0:(0:Int)≤(i:Int):=by omega
 have hk0:(0:Int)≤(k:Int):=by omega
 have hi1:(i:Int) < (T.length:Int):=by omega
 have hk1:(k:Int) < (T.length:Int):=by omega
 have ha0:(0:Int)≤(a:Int):=by omega
 have ha1:(a:Int) < (M:Int):=by omega
 have HB0:=zN (zBr w.heap.size w)
 obtain⟨tl,htl⟩:∃ tl,tl=T.length:=⟨_,rfl⟩
 rw[←htl] at ca hi1 hk1
 rw[hve] at cv hCC
 clear ei ek hrp hlt hR hV hve hM htl
 by_cases hab:a=b
 ·have hbe:((a:Int) == (b:Int))=true:=by rw[beq_iff_eq];omega
  have HF:Hid (cloB n a b=true):=zN (by unfold cloB;rw[show (a == b)=true by rw[beq_iff_eq];exact hab];rfl)
  have hSS:w.drew.cell? ⟨A,0,none⟩=some (.slice (some ⟨bb,o,none⟩) tl cap)∧w.drew.cell? ⟨bb,o+i,none⟩=some (.int .i64 (a:Int))∧w.drew.cell? ⟨bb,o+k,none⟩=some (.int .i64 (b:Int)):=⟨ca,ci,ck⟩
  clear ca cb cN cv ci ck hab
  go_enter Tryz.func64,Tryz.ntmps64
  go_wp2_with fail
  refine RX.region RX.fN (fun w'=>w'=w.drew) (by kernel_rfl) (by kernel_rfl) (rfl) (fun OPS HO QR hQR=>?_)
  repeat (refine zeX (fun R hR=>?_);(first|refine zaX (by first|rfl|(rw[HO.out];rfl)) (by simp only[zA,zB,zC,zD];rfl) ?_|refine zbX (by first|rfl|(rw[HO.out];rfl)) rfl (by first|exact .inl rfl|exact .inr rfl) (by simp only[zE,zF,zG,zH];rfl) (by simp only[zA,zB,zC,zD];rfl) ?_|refine zcX (by first|rfl|(rw[HO.out];rfl)) rfl rfl (by simp only[zE,zF,zG,zH];rfl) (by simp only[zA,zB,zC,zD];rfl) ?_|(refine zdX (by first|rfl|(rw[HO.out];rfl)) rfl rfl rfl ?_;apply zEx;apply zEx;refine⟨fun w' hS K hK=>?_,?_,?_⟩;(focus ((subst hS;obtain⟨x0,x1,x2⟩:=hSS);go_wp2;exact hK _ _ (by simp only[zl,zG,zH];first|exact zf (by omega)|exact zg (by omega)|exact zh (by omega)|exact zi (by omega)|exact zj (by omega)|exact zk (by omega)|exact RX.bneB _|rfl) rfl));(focus (simp only[zA,zB,zC,zD];rfl))));refine hR _ _ ?_;clear hR R)
  refine RX.wpL_nil (hQR _ _ (rfl) ?_);clear hQR QR HO OPS
  go_wp2
  go_ret
  exact⟨by rw[HF.out];rfl,HB0.out.drew⟩
 ·have hbe:((a:Int) == (b:Int))=false:=by rw[beq_eq_false_iff_ne];omega
  have HF:Hid (cloB n a b=(nextL n a).contains (b:Int)):=zN (by unfold cloB;rw[show (a == b)=false by rw[beq_eq_false_iff_ne];exact hab];rfl)
  have hSS:w.drew.cell? ⟨A,0,none⟩=some (.slice (some ⟨bb,o,none⟩) tl cap)∧w.drew.cell? ⟨bb,o+i,none⟩=some (.int .i64 (a:Int))∧w.drew.cell? ⟨bb,o+k,none⟩=some (.int .i64 (b:Int))∧w.drew.cell? ⟨B,0,none⟩=some (.pointer (some ⟨g,0,none⟩))∧w.drew.cell? ⟨g,6,none⟩=some (.slice (some ⟨N,0,none⟩) M M)∧w.drew.cell? ⟨N,a,none⟩=some (.slice q (nextL n a).length cq):=⟨ca,ci,ck,cb,cN,cv⟩
  have HCD:=zN (hCC.out w.drew (zBd (zBr _ _)))
  generalize (nextL n a).contains (b:Int)=cc at *
  generalize (nextL n a).length=nl at *
  clear ca cb cN cv ci ck hab hCC
  go_enter Tryz.func64,Tryz.ntmps64
  go_wp2_with fail
  refine RX.region RX.fN (fun w'=>w'=w.drew) (by kernel_rfl) (by kernel_rfl) (rfl) (fun OPS HO QR hQR=>?_)
  repeat (refine zeX (fun R hR=>?_);(first|refine zaX (by first|rfl|(rw[HO.out];rfl)) (by simp only[zA,zB,zC,zD];rfl) ?_|refine zbX (by first|rfl|(rw[HO.out];rfl)) rfl (by first|exact .inl rfl|exact .inr rfl) (by simp only[zE,zF,zG,zH];rfl) (by simp only[zA,zB,zC,zD];rfl) ?_|refine zcX (by first|rfl|(rw[HO.out];rfl)) rfl rfl (by simp only[zE,zF,zG,zH];rfl) (by simp only[zA,zB,zC,zD];rfl) ?_|(refine zdX (by first|rfl|(rw[HO.out];rfl)) rfl rfl rfl ?_;apply zEx;apply zEx;refine⟨fun w' hS K hK=>?_,?_,?_⟩;(focus ((subst hS;obtain⟨x0,x1,x2,x3,x4,x5⟩:=hSS);go_wp2;exact hK _ _ (by simp only[zl,zG,zH];first|exact zf (by omega)|exact zg (by omega)|exact zh (by omega)|exact zi (by omega)|exact zj (by omega)|exact zk (by omega)|exact RX.bneB _|rfl) rfl));(focus (simp only[zA,zB,zC,zD];rfl))));refine hR _ _ ?_;clear hR R)
  refine zeX (fun R hR=>?_)
  refine zgX (by first|rfl|(rw[HO.out];rfl)) rfl (fun K hK=>?_)
  go_wp2_with fail
  refine HCD.out.mono ?_
  rintro e w1 ⟨rfl,rfl⟩
  refine hK _ _ ⟨rfl,hR _ _ ?_⟩;clear hK K hR R
  repeat (refine zeX (fun R hR=>?_);(first|refine zaX (by first|rfl|(rw[HO.out];rfl)) (by simp only[zA,zB,zC,zD];rfl) ?_|refine zbX (by first|rfl|(rw[HO.out];rfl)) rfl (by first|exact .inl rfl|exact .inr rfl) (by simp only[zE,zF,zG,zH];rfl) (by simp only[zA,zB,zC,zD];rfl) ?_|refine zcX (by first|rfl|(rw[HO.out];rfl)) rfl rfl (by simp only[zE,zF,zG,zH];rfl) (by simp only[zA,zB,zC,zD];rfl) ?_|(refine zdX (by first|rfl|(rw[HO.out];rfl)) rfl rfl rfl ?_;apply zEx;apply zEx;refine⟨fun w' hS K hK=>?_,?_,?_⟩;(focus ((subst hS;obtain⟨x0,x1,x2,x3,x4,x5⟩:=hSS);go_wp2;exact hK _ _ (by simp only[zl,zG,zH];first|exact zf (by omega)|exact zg (by omega)|exact zh (by omega)|exact zi (by omega)|exact zj (by omega)|exact zk (by omega)|exact RX.bneB _|rfl) rfl));(focus (simp only[zA,zB,zC,zD];rfl))));refine hR _ _ ?_;clear hR R)
  refine RX.wpL_nil (hQR _ _ (rfl) ?_);clear hQR QR HO OPS
  go_wp2
  go_ret
  exact⟨by rw[HF.out];rfl,HB0.out.drew⟩
def plB (r:Rep):Pl:=⟨r.f.toNat,r.a.toNat,r.b.toNat,r.c.toNat⟩
theorem plB_ok {r:Rep} (h:vaB r=true):(plB r).Ok∧r.f=((plB r).f:Int)∧r.a=((plB r).a:Int)∧r.b=((plB r).b:Int)∧r.c=((plB r).c:Int):=by
 obtain⟨h1,h2,h3,h4,h5,h6⟩:ValidI r.f r.a r.b r.c:=of_decide_eq_true h
 exact⟨⟨by show r.f.toNat < 20;omega,by show r.a.toNat+r.b.toNat+r.c.toNat=840;omega⟩,by show r.f=(r.f.toNat:Int);omega,by show r.a=(r.a.toNat:Int);omega,by show r.b=(r.b.toNat:Int);omega,by show r.c=(r.c.toNat:Int);omega⟩
noncomputable def nodT (n:Nat) (L:List BR):List Nat:=L.map (fun x=>nodN n (plB x.1))
theorem QRow.kept {w w':World} {base:Nat} {v:Value} {zs:List Nat} {row:Option Nat} (h:QRow w base v zs) (hg:w.grownBy w' row) (hr:∀ k,row=some k→k < base):QRow w' base v zs:=
 World.ownsRow.kept h hg (by
  cases e:v.ownBlock with
  |none=>exact .inl rfl
  |some k=>refine .inr fun hh=>?_;have h1:=(World.ownsRow.lt h k e).1;have h2:=hr k hh.symm;omega)
theorem grw_own {w0 w w':World} {g:Nat} {row:Option Nat} (h:w0.grownBy w (some g)) (h2:w.grownBy w' row) (hr:∀ k,row=some k→w0.heap.size≤k):w0.grownBy w' (some g):=
 ⟨h2.os.trans h.os,h2.tape.trans h.tape,h2.output.trans h.output,Nat.le_trans h.size h2.size,fun j hj hne=>(h2.block j (Nat.lt_of_lt_of_le hj h.size) (fun e=>by have:=hr j e.symm;omega)).trans (h.block j hj hne)⟩
theorem nodN_lt {n:Nat} (h1:1≤n) (h8:n≤8) {p:Pl} {S:List (Nat × Nat)} (hp:p.Ok) (hS:IsLoc n p S):(best S).1 < (nodesL n).length:=by
 have hT:S≠[]:=fun e=>by
  have:=hS.1.length_eq
  rw[e] at this
  exact loc_ne h1 (hh_mul h1 h8) hp (List.length_eq_zero_iff.1 this.symm)
 have hm:best S∈S:=by
  cases S with
  |nil=>exact absurd rfl hT
  |cons x T=>
   rcases best_mem T x with h1|h1
   ·exact List.mem_cons.2 (.inl h1)
   ·exact List.mem_cons.2 (.inr h1)
 exact (loc_nodes h1 (hh_mul h1 h8) hp _ (hS.1.mem_iff.1 hm)).1
theorem nodes_any (n:Nat) (h1:1≤n) (h8:n≤8) (p:Option Addr) (cap m:Nat) (L:List BR) (hl:L.length=m) (hm:m≤100000) (w:World) (hT:HasTab w) (hV:VecB w p L) (hva:∀ x∈L,vaB x.1=true) :
  Calls Tryz.prog 40 #[.slice p m cap,.int .i64 (n:Int)] w fun e w'=>∃ A B g,e=.returned (.func (.func 64) #[] #[.pointer (some ⟨A,0,none⟩),.pointer (some ⟨B,0,none⟩)])∧NearAt w' A B n g (nodT n L)∧Below w.heap.size w w':=by
 have HT:=zN hT
 have HV:=zN hV
 have HL:=zN hl
 have HVA:=zN hva
 clear hT hV hl hva
 go_enter Tryz.func40,Tryz.ntmps40
 go_wp2_with fail
 refine (build_any n h1 h8 w HT.out).mono ?_
 rintro e w1 ⟨rfl,hN,hb1⟩
 obtain⟨g,hg⟩:∃ g,g=w.heap.size+1:=⟨_,rfl⟩
 rw[←hg] at hN ⊢
 have hgl:g < w1.heap.size:=zM w1 _ hN.net.cn
 have HN:=zN hN
 have HB1:=zN hb1
 have hws:w.heap.size≤w1.heap.size:=hb1.size
 clear hN hb1 hg
 go_wp2
 refine absW (F:=fun w'=>w'.cell? ⟨w1.heap.size,0,none⟩=some (.pointer (some ⟨g,0,none⟩))∧w'.cell? ⟨w1.heap.size+1,0,none⟩=some (.slice none 0 0)∧w'.frozen? ⟨w1.heap.size+1,0,none⟩=false∧Below w1.heap.size w1 w'∧w'.heap.size=w1.heap.size+2) ⟨(by simp[zO,zJ,zQ]),(by simp[zO,zJ,zQ]),by simp,(by repeat (first|(with_reducible first|assumption|exact zBr _ _|refine zBs ?_ (by first|omega|(simp<;>omega)) _|refine zBa ?_ (by first|omega|(simp<;>omega)) _|apply zBd)|assumption)),by simp⟩ ?_
 rintro W4 ⟨cb,ca,fa,hb4,hs4⟩
 generalize hBb:w1.heap.size=Bb at *
 generalize hA:Bb+1=A at *
 have hBA:Bb < A:=by omega
 have hgB:g < Bb:=hgl
 have HB4:=zN hb4
 have HS4:Hid (W4.heap.size=A+1):=zN (by omega)
 have HBB:=zN hBb
 have HAA:=zN hA
 have HWB:Hid (w.heap.size≤Bb):=zN hws
 clear hb4 hs4 hBb hA hgl hws
 go_loopw [13] (fun i wr=>∃ (k:Nat) (tv:Value),k≤m∧i=.int .i64 k∧wr.cell? ⟨A,0,none⟩=some tv∧QRow wr (A+1) tv (nodT n (L.take k))∧W4.grownBy wr (some A)∧wr.frozen? ⟨A,0,none⟩=false∧Hid (∀ x∈nodT n (L.take k),x < (nodesL n).length)) (fun i _=>m-(intOf i).toNat)
 case atStart=>exact⟨0,_,Nat.zero_le _,rfl,ca,QRow.nil _ _,grw_refl _ _,fa,zN (by intro x hx;simp[nodT] at hx)⟩
 case round=>
  clear ca fa
  obtain⟨k,tv,hk,rfl,ct,hrow,hgr,hfr,HLT⟩:=hrel
  have cbr:wr.cell? ⟨Bb,0,none⟩=some (.pointer (some ⟨g,0,none⟩)):=hgr.cell cb (by simp;omega)
  have hb1r:Below w1.heap.size w1 wr:=(HB4.out.mono (by have:=HBB.out;omega)).grown ((grw_refl _ _).trans hgr) (by have:=HBB.out;have:=HS4.out;omega) (fun k hk=>by injection hk with hk;have:=HBB.out;omega)
  by_cases hlt:k < m
  ·have hdk:decide ((k:Int) < (m:Int))=true:=zDt (by omega)
   have hk0:(0:Int)≤(k:Int):=by omega
   have hk1:(k:Int) < (m:Int):=by omega
   have hkl:k < L.length:=by rw[HL.out];exact hlt
   have hbw:Below w.heap.size w wr:=HB1.out.trans (hb1r.mono (by have:=HWB.out;have:=HBB.out;omega))
   have hVw:=HV.out.below hbw
   obtain⟨bb,o,rfl,hbbl,hrp⟩:=hVw.cell (by omega)
   have hri:=hrp k hkl
   have hva:=HVA.out _ (List.getElem_mem hkl)
   have hok:=(hVw.r _ (List.getElem_mem hkl)).ex
   have HTK:Hid (nodT n (L.take (k+1))=nodT n (L.take k) ++ [nodN n (plB L[k].1)]):=zN (by
    unfold nodT;rw[List.take_succ_eq_append_getElem hkl,List.map_append];rfl)
   obtain⟨x,hx⟩:∃ x,x=L[k]:=⟨_,rfl⟩
   rw[←hx] at hri hva HTK hok
   have HX:=zN hx
   obtain⟨hpk,e1,e2,e3,e4⟩:=plB_ok hva
   obtain⟨c0,c1,c2,c3,c4,c5,c6,c7,_⟩:=hri
   obtain⟨q,cq,hrd,_⟩:=hok
   obtain⟨nr,hnr⟩:∃ nr,nr=x.2.length:=⟨_,rfl⟩
   rw[hrd,←hnr] at c7
   rw[e1] at c3
   rw[e2] at c4
   rw[e3] at c5
   rw[e4] at c6
   obtain⟨P,hP⟩:∃ P,P=plB x.1:=⟨_,rfl⟩
   rw[←hP] at hpk c3 c4 c5 c6 HTK
   have HP:=zN hpk
   have HTW:=zN (HT.out.below hbw)
   have HNW:Hid (NetAt wr g n (g+1) (nodesL n)):=zN (HN.out.net.below hb1r)
   have HC:=zN (fun w' (hb:Below wr.heap.size wr w')=>nearest_any g n (g+1) P w' (HTW.out.below hb) (HNW.out.below hb) HP.out h1 h8)
   have hpv:Hid (pv P=.agg #[.int .i64 P.f,.int .i64 P.a,.int .i64 P.b,.int .i64 P.c]):=zN rfl
   rw[hpv.out] at HC
   obtain⟨T,hT⟩:∃ T,T=nodT n (L.take k):=⟨_,rfl⟩
   rw[←hT] at hrow HTK HLT
   have hTl:T.length=k:=by rw[hT];simp[nodT];omega
   have HTL:=zN hTl
   obtain⟨pt,cc,rfl,hcc⟩:=own_slice hrow
   rw[hTl] at ct hrow
   have hAr:A < wr.heap.size:=zM _ _ ct
   have HROW:=zN hrow
   have HGRW:=zN hgr
   have HFR:=zN hfr
   clear hx e1 e2 e3 e4 hP hva hpk hVw hrp hbw hT hTl hrow hgr hfr hpv hrd hnr
   clear hb1r
   go_wp2
   refine absW (F:=fun w'=>w'.cell? ⟨A,0,none⟩=some (.slice pt k cc)∧w'.cell? ⟨Bb,0,none⟩=some (.pointer (some ⟨g,0,none⟩))∧w'.cell? ⟨wr.heap.size,3,none⟩=some (.int .i64 P.f)∧w'.cell? ⟨wr.heap.size,4,none⟩=some (.int .i64 P.a)∧w'.cell? ⟨wr.heap.size,5,none⟩=some (.int .i64 P.b)∧w'.cell? ⟨wr.heap.size,6,none⟩=some (.int .i64 P.c)∧Below wr.heap.size wr w') ⟨(by (try have hLt:=zM _ _ ct);(try simp only at hLt);(repeat first|rw[zO]|rw[zK _ _ _ _ (by first|(simp<;>omega)|omega)]|rw[zJ,if_neg (by first|(simp<;>omega)|omega)]);first|exact ct|(rw[zJ,if_pos (by first|(simp;done)|omega)];exact ct)),(by (try have hLt:=zM _ _ cbr);(try simp only at hLt);(repeat first|rw[zO]|rw[zK _ _ _ _ (by first|(simp<;>omega)|omega)]|rw[zJ,if_neg (by first|(simp<;>omega)|omega)]);first|exact cbr|(rw[zJ,if_pos (by first|(simp;done)|omega)];exact cbr)),(by simp[zO,zJ,zQ]),(by simp[zO,zJ,zQ]),(by simp[zO,zJ,zQ]),(by simp[zO,zJ,zQ]),(by repeat (first|(with_reducible first|assumption|exact zBr _ _|refine zBs ?_ (by first|omega|(simp<;>omega)) _|refine zBa ?_ (by first|omega|(simp<;>omega)) _|apply zBd)|assumption))⟩ ?_
   rintro W5 ⟨a0,a1,a2,a3,a4,a5,hb5⟩
   have HB5:=zN hb5
   clear hb5 ct cbr c0 c1 c2 c3 c4 c5 c6 c7
   refine RY.region RX.fN (fun w'=>w'.cell? ⟨A,0,none⟩=some (.slice pt k cc)∧w'.cell? ⟨Bb,0,none⟩=some (.pointer (some ⟨g,0,none⟩))∧w'.cell? ⟨wr.heap.size,3,none⟩=some (.int .i64 P.f)∧w'.cell? ⟨wr.heap.size,4,none⟩=some (.int .i64 P.a)∧w'.cell? ⟨wr.heap.size,5,none⟩=some (.int .i64 P.b)∧w'.cell? ⟨wr.heap.size,6,none⟩=some (.int .i64 P.c)) (by kernel_rfl) (by kernel_rfl) (⟨a0,a1,a2,a3,a4,a5⟩) (fun OPS HO QR hQR=>?_)
   repeat (refine zeY (fun R hR=>?_);(first|refine zaY (by first|rfl|(rw[HO.out];rfl)) (by simp only[zA,zB,zC,zD];rfl) ?_|refine zbY (by first|rfl|(rw[HO.out];rfl)) rfl (by first|exact .inl rfl|exact .inr rfl) (by simp only[zE,zF,zG,zH];rfl) (by simp only[zA,zB,zC,zD];rfl) ?_|refine zcY (by first|rfl|(rw[HO.out];rfl)) rfl rfl (by simp only[zE,zF,zG,zH];rfl) (by simp only[zA,zB,zC,zD];rfl) ?_|(refine zdY (by first|rfl|(rw[HO.out];rfl)) rfl rfl rfl ?_;apply zEx;apply zEx;refine⟨fun w' hS K hK=>?_,?_,?_⟩;(focus (obtain⟨hS1,hS2,hS3,hS4,hS5,hS6⟩:=hS;go_wp2;exact hK _ _ (by simp only[zl,zG,zH];first|exact zf (by omega)|exact zg (by omega)|exact zh (by omega)|exact zi (by omega)|exact zj (by omega)|exact zk (by omega)|exact RX.bneB _|rfl) rfl));(focus (simp only[zA,zB,zC,zD];rfl))));refine hR _ _ ?_;clear hR R)
   refine zeY (fun R hR=>?_)
   refine zgY (by first|rfl|(rw[HO.out];rfl)) rfl (fun K hK=>?_)
   go_wp2_with fail
   refine (HC.out _ (HB5.out.trans (zBd (zBr _ _)))).mono ?_
   rintro e w6 ⟨S,hS,rfl,hb6⟩
   have z0:=zP hb6 (zP (zBd (zBr _ _)) a0)
   have z1:=zP hb6 (zP (zBd (zBr _ _)) a1)
   have z2:=zP hb6 (zP (zBd (zBr _ _)) a2)
   have z3:=zP hb6 (zP (zBd (zBr _ _)) a3)
   have z4:=zP hb6 (zP (zBd (zBr _ _)) a4)
   have z5:=zP hb6 (zP (zBd (zBr _ _)) a5)
   have HB6:Hid (Below wr.heap.size wr w6):=zN (HB5.out.trans (((zBd (zBr _ _)).trans hb6).mono HB5.out.size))
   have hown:=own_below HROW.out HB6.out
   have hnd:=nodN_lt h1 h8 HP.out hS
   rw[nodN_eq hS] at hnd
   rw[nodN_eq hS]
   obtain⟨nd,hnde⟩:∃ nd,nd=nodN n P:=⟨_,rfl⟩
   rw[←hnde] at hnd HTK ⊢
   have HLT2:Hid (∀ x∈T ++ [nd],x < (nodesL n).length):=zN (by
    intro x hx
    rcases List.mem_append.1 hx with h|h
    ·exact HLT.out x h
    ·rw[List.mem_singleton.1 h];exact hnd)
   clear hb6 hS a0 a1 a2 a3 a4 a5 hnde hnd
   refine hK _ _ ⟨.inr (⟨z0,z1,z2,z3,z4,z5⟩),hR _ _ ?_⟩;clear hK K hR R
   repeat (refine zeY (fun R hR=>?_);(first|refine zaY (by first|rfl|(rw[HO.out];rfl)) (by simp only[zA,zB,zC,zD];rfl) ?_|refine zbY (by first|rfl|(rw[HO.out];rfl)) rfl (by first|exact .inl rfl|exact .inr rfl) (by simp only[zE,zF,zG,zH];rfl) (by simp only[zA,zB,zC,zD];rfl) ?_|refine zcY (by first|rfl|(rw[HO.out];rfl)) rfl rfl (by simp only[zE,zF,zG,zH];rfl) (by simp only[zA,zB,zC,zD];rfl) ?_|(refine zdY (by first|rfl|(rw[HO.out];rfl)) rfl rfl rfl ?_;apply zEx;apply zEx;refine⟨fun w' hS K hK=>?_,?_,?_⟩;(focus (obtain⟨hS1,hS2,hS3,hS4,hS5,hS6⟩:=hS;go_wp2;exact hK _ _ (by simp only[zl,zG,zH];first|exact zf (by omega)|exact zg (by omega)|exact zh (by omega)|exact zi (by omega)|exact zj (by omega)|exact zk (by omega)|exact RX.bneB _|rfl) rfl));(focus (simp only[zA,zB,zC,zD];rfl))));refine hR _ _ ?_;clear hR R)
   refine zeY (fun R hR=>?_)
   refine zgY (by first|rfl|(rw[HO.out];rfl)) rfl (fun K hK=>?_)
   go_wp2
   refine⟨.inr (⟨(by (try have hLt:=zM _ _ z0);(try simp only at hLt);(repeat first|rw[zO]|rw[zK _ _ _ _ (by first|(simp<;>omega)|omega)]|rw[zJ,if_neg (by first|(simp<;>omega)|omega)]);first|exact z0|(rw[zJ,if_pos (by first|(simp;done)|omega)];exact z0)),(by (try have hLt:=zM _ _ z1);(try simp only at hLt);(repeat first|rw[zO]|rw[zK _ _ _ _ (by first|(simp<;>omega)|omega)]|rw[zJ,if_neg (by first|(simp<;>omega)|omega)]);first|exact z1|(rw[zJ,if_pos (by first|(simp;done)|omega)];exact z1)),(by (try have hLt:=zM _ _ z2);(try simp only at hLt);(repeat first|rw[zO]|rw[zK _ _ _ _ (by first|(simp<;>omega)|omega)]|rw[zJ,if_neg (by first|(simp<;>omega)|omega)]);first|exact z2|(rw[zJ,if_pos (by first|(simp;done)|omega)];exact z2)),(by (try have hLt:=zM _ _ z3);(try simp only at hLt);(repeat first|rw[zO]|rw[zK _ _ _ _ (by first|(simp<;>omega)|omega)]|rw[zJ,if_neg (by first|(simp<;>omega)|omega)]);first|exact z3|(rw[zJ,if_pos (by first|(simp;done)|omega)];exact z3)),(by (try have hLt:=zM _ _ z4);(try simp only at hLt);(repeat first|rw[zO]|rw[zK _ _ _ _ (by first|(simp<;>omega)|omega)]|rw[zJ,if_neg (by first|(simp<;>omega)|omega)]);first|exact z4|(rw[zJ,if_pos (by first|(simp;done)|omega)];exact z4)),(by (try have hLt:=zM _ _ z5);(try simp only at hLt);(repeat first|rw[zO]|rw[zK _ _ _ _ (by first|(simp<;>omega)|omega)]|rw[zJ,if_neg (by first|(simp<;>omega)|omega)]);first|exact z5|(rw[zJ,if_pos (by first|(simp;done)|omega)];exact z5))⟩),hR _ _ ?_⟩;clear hR R
   repeat (refine zeY (fun R hR=>?_);(first|refine zaY (by first|rfl|(rw[HO.out];rfl)) (by simp only[zA,zB,zC,zD];rfl) ?_|refine zbY (by first|rfl|(rw[HO.out];rfl)) rfl (by first|exact .inl rfl|exact .inr rfl) (by simp only[zE,zF,zG,zH];rfl) (by simp only[zA,zB,zC,zD];rfl) ?_|refine zcY (by first|rfl|(rw[HO.out];rfl)) rfl rfl (by simp only[zE,zF,zG,zH];rfl) (by simp only[zA,zB,zC,zD];rfl) ?_|(refine zdY (by first|rfl|(rw[HO.out];rfl)) rfl rfl rfl ?_;apply zEx;apply zEx;refine⟨fun w' hS K hK=>?_,?_,?_⟩;(focus (obtain⟨hS1,hS2,hS3,hS4,hS5,hS6⟩:=hS;go_wp2;exact hK _ _ (by simp only[zl,zG,zH];first|exact zf (by omega)|exact zg (by omega)|exact zh (by omega)|exact zi (by omega)|exact zj (by omega)|exact zk (by omega)|exact RX.bneB _|rfl) rfl));(focus (simp only[zA,zB,zC,zD];rfl))));refine hR _ _ ?_;clear hR R)
   refine zeY (fun R hR=>?_)
   refine zgY (by first|rfl|(rw[HO.out];rfl)) rfl (fun K hK=>?_)
   refine RX.wp_app elIn _ _ rfl (A+1) _ _ _ (World.ownsRow.alloc hown _) (by simp only[zE,zF,zG,zH]) w6.heap.size _ 1 (by simp only[zE,zF,zG,zH]) (heap_alloc_new _ _) rfl (by simp[Value.oneCell']) (by have:=HTL.out;omega) (by have:=HTL.out;omega) (by have:=HB6.out.size;simp;omega) (fun v5 w7 hown5 hb7 hg7 hat7=>?_)
   have hg67:w6.grownBy w7 (Value.slice pt k cc).ownBlock:=(World.grownBy_alloc w6 _ _).trans hg7
   have hlow:∀ q,(Value.slice pt k cc).ownBlock=some q→A+1≤q:=fun q hq=>(World.ownsRow.lt hown q hq).1
   have hnb:∀ b,b≤A→some b≠(Value.slice pt k cc).ownBlock:=fun b hb e=>by have:=hlow b e.symm;omega
   have hw6:A < w6.heap.size:=by have:=HB6.out.size;omega
   have y0:=hg67.cell z0 (hnb _ (Nat.le_refl _))
   have y1:=hg67.cell z1 (hnb Bb (by omega))
   have hz:∀ j v,w6.cell? ⟨wr.heap.size,j,none⟩=some v→w7.cell? ⟨wr.heap.size,j,none⟩=some v:=fun j v e=>hg67.cell e (fun e'=>by
    have:=(World.ownsRow.lt HROW.out _ e'.symm).2
    exact Nat.lt_irrefl _ this)
   have y2:=hz _ _ z2
   have y3:=hz _ _ z3
   have y4:=hz _ _ z4
   have y6:=hz _ _ z5
   have hwr7:wr.grownBy w7 (Value.slice pt k cc).ownBlock:=(grw_below HB6.out _).trans hg67
   have y5:w7.frozen? ⟨A,0,none⟩=false:=(zFb (hwr7.block A hAr (hnb _ (Nat.le_refl _)))).trans HFR.out
   have HW7:Hid (W4.grownBy w7 (some A)):=zN (grw_own HGRW.out hwr7 (fun q hq=>by have:=hlow q hq;have:=HS4.out;omega))
   obtain⟨p5,c5,rfl,hc5⟩:=own_slice hown5
   have HOWN:=zN hown5
   clear hz z0 z1 z2 z3 z4 z5 hg7 hb7 hat7 hg67 hwr7 hown hown5
   refine hK _ _ ⟨.inr (⟨y0,y1,y2,y3,y4,y6⟩),?_⟩;clear hK K;refine RY.at_ (by simp only[RX.put_some,RX.put_none,List.set_cons_zero,List.set_cons_succ];rfl) (hR _ _ ?_);clear hR R
   repeat (refine zeY (fun R hR=>?_);(first|refine zaY (by first|rfl|(rw[HO.out];rfl)) (by simp only[zA,zB,zC,zD];rfl) ?_|refine zbY (by first|rfl|(rw[HO.out];rfl)) rfl (by first|exact .inl rfl|exact .inr rfl) (by simp only[zE,zF,zG,zH];rfl) (by simp only[zA,zB,zC,zD];rfl) ?_|refine zcY (by first|rfl|(rw[HO.out];rfl)) rfl rfl (by simp only[zE,zF,zG,zH];rfl) (by simp only[zA,zB,zC,zD];rfl) ?_|(refine zdY (by first|rfl|(rw[HO.out];rfl)) rfl rfl rfl ?_;apply zEx;apply zEx;refine⟨fun w' hS K hK=>?_,?_,?_⟩;(focus (obtain⟨hS1,hS2,hS3,hS4,hS5,hS6⟩:=hS;go_wp2;exact hK _ _ (by simp only[zl,zG,zH];first|exact zf (by omega)|exact zg (by omega)|exact zh (by omega)|exact zi (by omega)|exact zj (by omega)|exact zk (by omega)|exact RX.bneB _|rfl) rfl));(focus (simp only[zA,zB,zC,zD];rfl))));refine hR _ _ ?_;clear hR R)
   refine zeY (fun R hR=>?_)
   refine zgY (by first|rfl|(rw[HO.out];rfl)) rfl (fun K hK=>?_)
   go_wp2
   first|refine⟨(by first|exact .inl rfl|exact .inl trivial|trivial),hR _ _ (RY.wpL_nil (hQR _ _ ?_))⟩|refine hR _ _ (RY.wpL_nil (hQR _ _ ?_))|refine hQR _ _ ?_
   (try clear hR);(try clear R);clear hQR QR HO OPS
   go_wp2
   go_roundw
   case rel=>exact⟨k+1,_,by omega,by go_num,zL _ _ _ (by rw[y0];rfl),by
     rw[HTK.out]
     exact QRow.kept (QRow.snoc HOWN.out) (grownBy_setCell _ _ _ _) (fun k hk=>by injection hk with hk;omega),grw_set HW7.out (.inl rfl),by rw[World.frozen?_setCell];exact y5,by rw[HTK.out];exact HLT2⟩
   case measure=>simp[intOf];omega
  ·have hdk:decide ((k:Int) < (m:Int))=false:=zDf (by omega)
   have HLE:=zN (HL.out.trans (show m=k by omega))
   have hbw:Below w.heap.size w wr:=HB1.out.trans (hb1r.mono (by have:=HWB.out;have:=HBB.out;omega))
   have hTk:L.take k=L:=List.take_of_length_le (by have:=HL.out;omega)
   rw[hTk] at hrow HLT
   have HF:Hid (NearAt wr A Bb n g (nodT n L)):=zN (by
    obtain⟨p',cap',h1',h2',h3'⟩:=hrow.rd
    rw[natI_len] at h1'
    obtain⟨N,h4',h5',_⟩:=HN.out.next
    exact⟨⟨p',cap',by rw[ct,h1'],h3'⟩,cbr,⟨N,zP hb1r h4',h5'.below hb1r⟩,fun i h=>HLT.out _ (List.getElem_mem h)⟩)
   have HBW:=zN hbw
   clear hbw hTk hrow HLT ct cbr hgr hfr hb1r HLE
   go_wp2
   go_ret
   exact⟨A,Bb,g,rfl,HF.out,HBW.out⟩
end Go.Proofs.YtednaajanciabaaGreatDoor
theorem Go.RX.wpl_app {P:Go.Program} {ops:Array Go.Oper} {rest:List Go.Oper} {o:Go.Oper} {a:Go.Act} {w:Go.World} {Q:Go.Exit→Go.Act→Go.World→Prop} {t e:Go.TypeId} {z:Go.Value} {size bytes:Nat} (hgd:o.guard=none) (E:Go.RX.ElemOf P t e z size bytes) (s x:Go.Operand)
  (ho:o.op=.call { callee:=.builtin .append,args:=#[s,x],argTypes:=#[t,t] }) (base:Nat)
  (v:Go.Value) (n:Nat) (xs:List Go.Value) (hown:w.ownsRow base e size v n xs) (hs:a.eval s=v)
  (B:Nat) (cs:Array Go.Value) (m:Nat) (hx:a.eval x=.slice (some ⟨B,0,none⟩) m m) (hB:w.heap[B]?=some (.cells cs e (0,0))) (hc:cs.size=m*size) (h1:∀ u∈cs.toList,u.oneCell'=true)
  (hbytes:(n+m)*bytes≤140737488355328) (hn:n+m≤140737488355328) (hbase:base≤w.heap.size)
  (h:∀ v' w',w'.ownsRow base e size v' (n+m) (xs ++ cs.toList)→Go.RowKit.Below base w w'→w.grownBy w' v.ownBlock→(v'.ownBlock=v.ownBlock∨v'.ownBlock=some w.heap.size)→Go.wpList P ops Q rest (a.put o.dst v') w'):Go.wpList P ops Q (o :: rest) a w:=by
 refine Go.wpList_plain hgd fun K hK=>?_
 exact Go.RX.wp_app E s x ho base v n xs hown hs B cs m hx hB hc h1 hbytes hn hbase (fun v' w' a b c d=>hK _ _ (h v' w' a b c d))
namespace Go.Proofs.YtednaajanciabaaGreatDoor
open Go.RowKit Go.Grid
def bat (L:List BR) (k:Nat):BR:=L.getD k (rep0,[])
theorem bat_eq {L:List BR} {k:Nat} (h:k < L.length):bat L k=L[k]:=by
 unfold bat
 rw[List.getD_eq_getElem?_getD,List.getElem?_eq_getElem h];rfl
noncomputable def cloN (n:Nat) (L:List BR) (i k:Nat):Bool:=decide ((bat L i).1.name≠(bat L k).1.name) && cloB n (nodN n (plB (bat L i).1)) (nodN n (plB (bat L k).1))
noncomputable def aroP (n:Nat) (L:List BR) (c:Int) (i k:Nat):Bool:=fB (bat L k).2 c && cloN n L i k
noncomputable def aroL (n:Nat) (L:List BR) (c:Int) (i:Nat):List Nat:=if fB (bat L i).2 c then (List.range L.length).filter (aroP n L c i) else []
theorem filt_succ (f:Nat→Bool) (k:Nat):(List.range (k+1)).filter f=(List.range k).filter f ++ if f k=true then [k] else []:=by
 rw[List.range_succ,List.filter_append]
 by_cases h:f k=true
 ·rw[if_pos h];simp[h]
 ·rw[if_neg h];simp[h]
theorem filt_le (f:Nat→Bool) (k:Nat):((List.range k).filter f).length≤k:=by
 have:=List.length_filter_le f (List.range k)
 rwa[List.length_range] at this
theorem nodT_get {n:Nat} {L:List BR} {k:Nat} (h:k < L.length) (h':k < (nodT n L).length):(nodT n L)[k]=nodN n (plB (bat L k).1):=by
 rw[bat_eq h]
 simp[nodT]
theorem around_any (n:Nat) (h1:1≤n) (h8:n≤8) (A Bb g:Nat) (p:Option Addr) (cap m:Nat) (L:List BR) (hl:L.length=m) (hm:m≤100000) (i:Nat) (hi:i < m) (c:Int) (w:World) (hV:VecB w p L) (hN:NearAt w A Bb n g (nodT n L)) :
  Calls Tryz.prog 42 #[.slice p m cap,.func (.func 64) #[] #[.pointer (some ⟨A,0,none⟩),.pointer (some ⟨Bb,0,none⟩)],.int .i64 (i:Int),.int .i64 c] w fun e w'=>∃ v,e=.returned v∧QRow w' w.heap.size v (aroL n L c i)∧Below w.heap.size w w':=by
 obtain⟨bb,o,rfl,hbl,hrp⟩:=hV.cell (by omega)
 have hil:i < L.length:=by omega
 have HM:=zN hl
 have hri:=hrp i hil
 have hok:=hV.r _ (List.getElem_mem hil)
 rw[←bat_eq hil] at hri hok
 have HV:=zN hV
 have HN:=zN hN
 have HRP:=zN hrp
 have HAL:Hid (aroL n L c i=if fB (bat L i).2 c then (List.range m).filter (aroP n L c i) else []):=zN (by unfold aroL;rw[hl])
 obtain⟨ri,hrie⟩:∃ ri,ri=bat L i:=⟨_,rfl⟩
 rw[←hrie] at hri hok HAL
 have HRI:=zN hrie
 obtain⟨qi,ci,hrd,hRin⟩:=hok.ex
 obtain⟨ni,hni⟩:∃ ni,ni=ri.2.length:=⟨_,rfl⟩
 have hni9:ni≤1000000000:=by rw[hni];exact hok.len
 have hRI:=zN hri
 obtain⟨x0,x1,x2,x3,x4,x5,x6,x7,_⟩:=hri
 rw[hrd,←hni] at x7
 have HC:=zN (find_any qi ri.2 ci ni c w hni.symm hRin hni9)
 have hi0:(0:Int)≤(i:Int):=by omega
 have hi1:(i:Int) < (m:Int):=by omega
 obtain⟨fi,hfi⟩:∃ fi,fi=fB ri.2 c:=⟨_,rfl⟩
 rw[←hfi] at HC HAL
 have HB0:=zN (zBr w.heap.size w)
 clear hV hN hrp hl hrie hok hrd hRin hni hfi x0 x2 x3 x4 x5 x6
 go_enter Tryz.func42,Tryz.ntmps42
 go_wp2_with fail
 refine HC.out.mono ?_
 rintro e w1 ⟨rfl,hb1⟩
 have HB1:=zN hb1
 clear HC hb1 x7 x1
 cases fi with
 |false=>
  go_wp2
  go_ret
  exact⟨_,rfl,by rw[HAL.out];exact QRow.nil _ _,HB1.out⟩
 |true=>
  have HA2:Hid (aroL n L c i=(List.range m).filter (aroP n L c i)):=zN (by rw[HAL.out];rfl)
  clear HAL
  go_wp2
  go_loopw [30,11] (fun v30 v11 wr=>∃ k:Nat,k≤m∧v30=.int .i64 (k:Int)∧QRow wr w.heap.size v11 ((List.range k).filter (aroP n L c i))∧Below w.heap.size w wr) (fun v30 _ _=>m-(intOf v30).toNat)
  case atStart=>exact⟨0,by omega,rfl,QRow.nil _ _,HB1.out⟩
  case round=>
   obtain⟨k,hkn,rfl,hrow,hb⟩:=hrel
   by_cases hk:k < m
   ·have hdk:decide ((k:Int) < (m:Int))=true:=zDt (by omega)
    have hk0:(0:Int)≤(k:Int):=by omega
    have hk1:(k:Int) < (m:Int):=by omega
    have hkl:k < L.length:=by rw[HM.out];exact hk
    have hVw:=HV.out.below hb
    have hrk:=(HRP.out k hkl).of_block (hb.block _ hbl)
    have hok:=hVw.r _ (List.getElem_mem hkl)
    rw[←bat_eq hkl] at hrk hok
    have HFS:=zN (filt_succ (aroP n L c i) k)
    have HPK:Hid (aroP n L c i k=(fB (bat L k).2 c && (decide (ri.1.name≠(bat L k).1.name) && cloB n (nodN n (plB ri.1)) (nodN n (plB (bat L k).1))))):=zN (by unfold aroP cloN;rw[HRI.out])
    obtain⟨rk,hrke⟩:∃ rk,rk=bat L k:=⟨_,rfl⟩
    rw[←hrke] at hrk hok HPK
    have HRK:=zN hrke
    obtain⟨qk,ck,hrd,hRk⟩:=hok.ex
    obtain⟨nk,hnk⟩:∃ nk,nk=rk.2.length:=⟨_,rfl⟩
    have hnk9:nk≤1000000000:=by rw[hnk];exact hok.len
    obtain⟨y0,y1,y2,y3,y4,y5,y6,y7,_⟩:=hrk
    rw[hrd,←hnk] at y7
    have hbA:Below wr.heap.size wr (wr.alloc (.cells #[.int .i64 rk.1.kind,.string rk.1.name,.int .i64 rk.1.time,.int .i64 rk.1.f,.int .i64 rk.1.a,.int .i64 rk.1.b,.int .i64 rk.1.c,.slice qk nk ck] 44)):=(zBr _ _).alloc (Nat.le_refl _) _
    have HBA:=zN hbA
    have HC:=zN (find_any qk rk.2 ck nk c _ hnk.symm (hRk.below hbA) hnk9)
    have HBW:=zN hb
    have HROW:=zN hrow
    obtain⟨fk,hfk⟩:∃ fk,fk=fB rk.2 c:=⟨_,rfl⟩
    rw[←hfk] at HC HPK
    clear hb hVw hok hrke hrd hRk hnk hfk hbA hrow
    go_wp2_with fail
    refine HC.out.mono ?_
    rintro e w2 ⟨rfl,hb2⟩
    have HB2:=zN ((HBA.out).trans (hb2.mono HBA.out.size))
    have r1:w2.drew.cell? ⟨bb,o+i*8+1,none⟩=some (.string ri.1.name):=zP (HBW.out.trans (HB2.out.mono HBW.out.size)).drew hRI.out.c1
    have r2:w2.drew.cell? ⟨wr.heap.size,1,none⟩=some (.string rk.1.name):=zP hb2.drew (by simp[zO,zJ,zQ])
    have hw2:wr.heap.size < w2.heap.size:=zM w2 _ r2
    have HBW2:=zN (HBW.out.trans (HB2.out.mono HBW.out.size))
    have HROW2:=zN (own_below HROW.out HB2.out)
    clear HC hb2 y0 y1 y2 y3 y4 y5 y6 y7 HBA
    cases fk with
    |false=>
     have HF:Hid ((List.range (k+1)).filter (aroP n L c i)=(List.range k).filter (aroP n L c i)):=zN (by rw[HFS.out,HPK.out,Bool.false_and,if_neg (by simp),List.append_nil])
     clear r1 r2
     go_wp2_with fail
     refine RX.region RX.fN (fun w'=>w'=w2.drew) (by kernel_rfl) (by kernel_rfl) (rfl) (fun OPS HO QR hQR=>?_)
     repeat (refine zeX (fun R hR=>?_);(first|refine zaX (by first|rfl|(rw[HO.out];rfl)) (by simp only[zA,zB,zC,zD];rfl) ?_|refine zbX (by first|rfl|(rw[HO.out];rfl)) rfl (by first|exact .inl rfl|exact .inr rfl) (by simp only[zE,zF,zG,zH];rfl) (by simp only[zA,zB,zC,zD];rfl) ?_|refine zcX (by first|rfl|(rw[HO.out];rfl)) rfl rfl (by simp only[zE,zF,zG,zH];rfl) (by simp only[zA,zB,zC,zD];rfl) ?_|(refine zdX (by first|rfl|(rw[HO.out];rfl)) rfl rfl rfl ?_;apply zEx;apply zEx;refine⟨fun w' hS K hK=>?_,?_,?_⟩;(focus ((subst hS);go_wp2;exact hK _ _ (by simp only[zl,zG,zH];first|exact zf (by omega)|exact zg (by omega)|exact zh (by omega)|exact zi (by omega)|exact zj (by omega)|exact zk (by omega)|exact RX.bneB _|rfl) rfl));(focus (simp only[zA,zB,zC,zD];rfl))));refine hR _ _ ?_;clear hR R)
     refine RX.wpL_nil (hQR _ _ (rfl) ?_);clear hQR QR HO OPS
     go_wp2
     go_roundw
     case rel=>exact⟨k+1,by omega,by go_num,by rw[HF.out];exact own_below HROW2.out (zBd (zBr _ _)),HBW2.out.drew⟩
     case measure=>simp[intOf]<;>omega
    |true=>
     by_cases hnm:rk.1.name=ri.1.name
     ·have HF:Hid ((List.range (k+1)).filter (aroP n L c i)=(List.range k).filter (aroP n L c i)):=zN (by rw[HFS.out,HPK.out,Bool.true_and,zDf (fun h=>h hnm.symm),Bool.false_and,if_neg (by simp),List.append_nil])
      have hnb:=(str_eq hnm).1
      have hnt:=(str_eq hnm).2
      have hnc:(rk.1.name != ri.1.name)=false:=by unfold bne;rw[hnb];rfl
      have hnu:(rk.1.name.toList != ri.1.name.toList)=false:=by unfold bne;rw[hnt];rfl
      have hSS:=And.intro r1 r2
      clear hnm r1 r2
      go_wp2_with fail
      refine RX.region RX.fN (fun w'=>w'=w2.drew) (by kernel_rfl) (by kernel_rfl) (rfl) (fun OPS HO QR hQR=>?_)
      repeat (refine zeX (fun R hR=>?_);(first|refine zaX (by first|rfl|(rw[HO.out];rfl)) (by simp only[zA,zB,zC,zD];rfl) ?_|refine zbX (by first|rfl|(rw[HO.out];rfl)) rfl (by first|exact .inl rfl|exact .inr rfl) (by simp only[zE,zF,zG,zH];rfl) (by simp only[zA,zB,zC,zD];rfl) ?_|refine zcX (by first|rfl|(rw[HO.out];rfl)) rfl rfl (by simp only[zE,zF,zG,zH];rfl) (by simp only[zA,zB,zC,zD];rfl) ?_|(refine zdX (by first|rfl|(rw[HO.out];rfl)) rfl rfl rfl ?_;apply zEx;apply zEx;refine⟨fun w' hS K hK=>?_,?_,?_⟩;(focus ((subst hS;obtain⟨z0,z1⟩:=hSS);go_wp2;exact hK _ _ (by simp only[zl,zG,zH];first|exact zf (by omega)|exact zg (by omega)|exact zh (by omega)|exact zi (by omega)|exact zj (by omega)|exact zk (by omega)|exact RX.bneB _|rfl) rfl));(focus (simp only[zA,zB,zC,zD];rfl))));refine hR _ _ ?_;clear hR R)
      refine RX.wpL_nil (hQR _ _ (rfl) ?_);clear hQR QR HO OPS
      go_wp2
      go_roundw
      case rel=>exact⟨k+1,by omega,by go_num,by rw[HF.out];exact own_below HROW2.out (zBd (zBr _ _)),HBW2.out.drew⟩
      case measure=>simp[intOf]<;>omega
     ·have hnb:=(str_ne hnm).1
      have hnt:=(str_ne hnm).2
      have hnc:(rk.1.name != ri.1.name)=true:=by unfold bne;rw[hnb];rfl
      have hnu:(rk.1.name.toList != ri.1.name.toList)=true:=by unfold bne;rw[hnt];rfl
      have hSS:=And.intro r1 r2
      have HTL:Hid ((nodT n L).length=m):=zN (by rw[show (nodT n L).length=L.length by simp[nodT]];exact HM.out)
      have hNC:=near_any A Bb n g (nodT n L) h1 h8 i k (by rw[HTL.out];exact hi) (by rw[HTL.out];exact hk) (by rw[HTL.out];omega) w2.drew (HN.out.below HBW2.out.drew)
      rw[nodT_get hil,nodT_get hkl,←HRI.out,←HRK.out] at hNC
      obtain⟨cc,hcc⟩:∃ cc,cc=cloB n (nodN n (plB ri.1)) (nodN n (plB rk.1)):=⟨_,rfl⟩
      rw[←hcc] at hNC HPK
      have HP2:Hid (aroP n L c i k=cc):=zN (by have hnm':ri.1.name≠rk.1.name:=fun h=>hnm h.symm;rw[HPK.out];simp[hnm'])
      have HNC:=zN hNC
      clear hnm r1 r2 hNC hcc HPK
      go_wp2_with fail
      refine RX.region RX.fN (fun w'=>w'.cell? ⟨bb,o+i*8+1,none⟩=some (.string ri.1.name)∧w'.cell? ⟨wr.heap.size,1,none⟩=some (.string rk.1.name)) (by kernel_rfl) (by kernel_rfl) (hSS) (fun OPS HO QR hQR=>?_)
      repeat (refine zeX (fun R hR=>?_);(first|refine zaX (by first|rfl|(rw[HO.out];rfl)) (by simp only[zA,zB,zC,zD];rfl) ?_|refine zbX (by first|rfl|(rw[HO.out];rfl)) rfl (by first|exact .inl rfl|exact .inr rfl) (by simp only[zE,zF,zG,zH];rfl) (by simp only[zA,zB,zC,zD];rfl) ?_|refine zcX (by first|rfl|(rw[HO.out];rfl)) rfl rfl (by simp only[zE,zF,zG,zH];rfl) (by simp only[zA,zB,zC,zD];rfl) ?_|(refine zdX (by first|rfl|(rw[HO.out];rfl)) rfl rfl rfl ?_;apply zEx;apply zEx;refine⟨fun w' hS K hK=>?_,?_,?_⟩;(focus ((obtain⟨z0,z1⟩:=hS);go_wp2;exact hK _ _ (by simp only[zl,zG,zH];first|exact zf (by omega)|exact zg (by omega)|exact zh (by omega)|exact zi (by omega)|exact zj (by omega)|exact zk (by omega)|exact RX.bneB _|rfl) rfl));(focus (simp only[zA,zB,zC,zD];rfl))));refine hR _ _ ?_;clear hR R)
      refine zeX (fun R hR=>?_)
      refine zgX (by first|rfl|(rw[HO.out];rfl)) rfl (fun K hK=>?_)
      go_wp2_with fail
      refine HNC.out.mono ?_
      rintro e w3 ⟨rfl,hb3⟩
      have hb3':Below w2.heap.size w2 w3:=(zBd (zBr _ _)).trans hb3
      have HB3:=zN (HBW2.out.trans (hb3'.mono HBW2.out.size))
      have HROW3:=zN (own_below HROW2.out hb3')
      have hS3:=And.intro (zP hb3 hSS.1) (zP hb3 hSS.2)
      clear hb3 hb3' hSS
      refine hK _ _ ⟨hS3,hR _ _ ?_⟩;clear hK K hR R
      repeat (refine zeX (fun R hR=>?_);(first|refine zaX (by first|rfl|(rw[HO.out];rfl)) (by simp only[zA,zB,zC,zD];rfl) ?_|refine zbX (by first|rfl|(rw[HO.out];rfl)) rfl (by first|exact .inl rfl|exact .inr rfl) (by simp only[zE,zF,zG,zH];rfl) (by simp only[zA,zB,zC,zD];rfl) ?_|refine zcX (by first|rfl|(rw[HO.out];rfl)) rfl rfl (by simp only[zE,zF,zG,zH];rfl) (by simp only[zA,zB,zC,zD];rfl) ?_|(refine zdX (by first|rfl|(rw[HO.out];rfl)) rfl rfl rfl ?_;apply zEx;apply zEx;refine⟨fun w' hS K hK=>?_,?_,?_⟩;(focus (obtain⟨z0,z1⟩:=hS;go_wp2;exact hK _ _ (by simp only[zl,zG,zH];first|exact zf (by omega)|exact zg (by omega)|exact zh (by omega)|exact zi (by omega)|exact zj (by omega)|exact zk (by omega)|exact RX.bneB _|rfl) rfl));(focus (simp only[zA,zB,zC,zD];rfl))));refine hR _ _ ?_;clear hR R)
      refine RX.wpL_nil (hQR _ _ (hS3) ?_);clear hQR QR HO OPS
      clear hS3
      cases cc with
      |false=>
       have HF:Hid ((List.range (k+1)).filter (aroP n L c i)=(List.range k).filter (aroP n L c i)):=zN (by rw[HFS.out,HP2.out,if_neg (by simp),List.append_nil])
       go_wp2
       go_roundw
       case rel=>exact⟨k+1,by omega,by go_num,by rw[HF.out];exact HROW3.out,HB3.out⟩
       case measure=>simp[intOf]<;>omega
      |true=>
       have HF:Hid ((List.range (k+1)).filter (aroP n L c i)=(List.range k).filter (aroP n L c i) ++ [k]):=zN (by rw[HFS.out,HP2.out,if_pos rfl])
       have hrow3:=HROW3.out
       have hTl:=filt_le (aroP n L c i) k
       obtain⟨T,hT⟩:∃ T,T=(List.range k).filter (aroP n L c i):=⟨_,rfl⟩
       rw[←hT] at hrow3 hTl HF
       obtain⟨p11,c11,rfl,hc11⟩:=own_slice hrow3
       have hs3:=HB3.out.size
       clear hT
       go_wp2_with (refine RX.wpl_app (by rfl) elIn _ _ (by rfl) w.heap.size _ _ _ (World.ownsRow.alloc hrow3 _) (by rfl) w3.heap.size _ 1 (by rfl) (heap_alloc_new _ _) (by rfl) (by simp[Value.oneCell']) (by omega) (by omega) (by simp;omega) ?_;intro vq w4 hown4 hb4 hg4 hat4;clear hat4)
       have HB4:=zN (HB3.out.trans (((zBr _ _).alloc (by omega) _).trans hb4))
       go_wp2
       go_roundw
       case rel=>exact⟨k+1,by omega,by go_num,by rw[HF.out];exact QRow.snoc hown4,HB4.out⟩
       case measure=>simp[intOf]<;>omega
   ·have hdk:decide ((k:Int) < (m:Int))=false:=zDf (by omega)
    obtain rfl:k=m:=by omega
    have HB2:=zN hb
    have HROW:=zN hrow
    clear hb hrow
    go_wp2
    go_ret
    exact⟨_,rfl,by rw[HA2.out];exact HROW.out,HB2.out⟩
theorem NextAt.congr {w:World} {N M base:Nat} {ls ls':Nat→List Int} (h:NextAt w N M base ls) (e:∀ i,i < M→ls i=ls' i):NextAt w N M base ls':=by
 obtain⟨vs,h1,h2,h3⟩:=h
 exact⟨vs,h1,fun i hi=>by rw[←e i hi];exact h2 i hi,h3⟩
theorem AroAt.rdc {w:World} {N M a:Nat} {ls:Nat→List Int} (h:AroAt w N M ls) (ha:a < M):∃ p cap,w.cell? ⟨N,a,none⟩=some (.slice p (ls a).length cap)∧RdI w (.slice p (ls a).length cap) (ls a):=by
 obtain⟨p,cap,b,h1,h2,h3,h4,h5,_⟩:=h.row ha
 exact⟨p,cap,h1,p,cap,rfl,h3,b,0,fun h0=>(h4 h0).1,fun j hj=>by rw[Nat.zero_add];exact h5 j hj⟩
theorem cloB_mem (n a b:Nat):cloB n a b=(decide (a=b) || decide ((b:Int)∈nextL n a)):=by
 unfold cloB
 rw[List.contains_eq_mem]
 rfl
noncomputable def cloTo (n:Nat) (L:List BR) (i k:Nat):Nat→List Int:=fun j=>if j < i then natI ((List.range L.length).filter (cloN n L j)) else if j=i then natI ((List.range k).filter (cloN n L j)) else []
noncomputable def cloR (n:Nat) (L:List BR):Nat→List Int:=fun j=>natI ((List.range L.length).filter (cloN n L j))
theorem cloTo_no {n:Nat} {L:List BR} {i k:Nat} (h:cloN n L i k=false):cloTo n L i (k+1)=cloTo n L i k:=by
 funext j
 unfold cloTo
 by_cases e:j < i
 ·rw[if_pos e,if_pos e]
 ·rw[if_neg e,if_neg e]
  by_cases e2:j=i
  ·subst e2
   rw[if_pos rfl,if_pos rfl,filt_succ,h];simp
  ·rw[if_neg e2,if_neg e2]
theorem cloTo_add {n:Nat} {L:List BR} {i k:Nat} (h:cloN n L i k=true):cloTo n L i (k+1)=addTo (cloTo n L i k) i (k:Int):=by
 funext j
 unfold cloTo addTo
 dsimp only
 by_cases e:j < i
 ·rw[if_pos e,if_pos e,if_neg (by omega)]
 ·rw[if_neg e,if_neg e]
  by_cases e2:j=i
  ·subst e2
   rw[if_pos rfl,if_pos rfl,if_pos rfl,filt_succ,h];simp[natI]
  ·rw[if_neg e2,if_neg e2,if_neg e2]
theorem cloTo_next (n:Nat) (L:List BR) (i j:Nat):cloTo n L i L.length j=cloTo n L (i+1) 0 j:=by
 unfold cloTo
 by_cases e:j < i
 ·rw[if_pos e,if_pos (by omega)]
 ·rw[if_neg e]
  by_cases e2:j=i
  ·subst e2
   rw[if_pos rfl,if_pos (by omega)]
  ·rw[if_neg e2,if_neg (by omega)]
   by_cases e3:j=i+1
   ·rw[if_pos e3];rfl
   ·rw[if_neg e3]
theorem cloTo_zero (n:Nat) (L:List BR):cloTo n L 0 0=fun _=>[]:=by
 funext j
 unfold cloTo
 rw[if_neg (by omega)]
 by_cases e:j=0
 ·rw[if_pos e];rfl
 ·rw[if_neg e]
theorem cloTo_len (n:Nat) (L:List BR) (i k j:Nat) (hk:k≤L.length):(cloTo n L i k j).length≤L.length:=by
 unfold cloTo
 split
 ·rw[natI_len];exact filt_le _ _
 ·split
  ·rw[natI_len];exact Nat.le_trans (filt_le _ _) hk
  ·exact Nat.zero_le _
theorem raround3_any (n:Nat) (h1:1≤n) (h8:n≤8) (w:World):Calls Tryz.prog 48 #[.int .i64 n] w fun e w'=>∃ N,e=.returned (.slice (some ⟨N,0,none⟩) (nodesL n).length (nodesL n).length)∧AroAt w' N (nodesL n).length (nextL n)∧w.heap.size≤N∧Below w.heap.size w w':=by
 have HK:=zN (fun w=>raround_any n h1 h8 w)
 obtain⟨M,hM⟩:∃ M,M=(nodesL n).length:=⟨_,rfl⟩
 have HM:=zN hM
 rw[←hM] at HK ⊢
 clear hM
 go_enter Tryz.func48,Tryz.ntmps48
 go_wp2_with fail
 refine (HK.out w).mono ?_
 rintro e w1 ⟨N,rfl,hA,hN,hb⟩
 have HA:=zN (And.intro hA (And.intro hN hb))
 clear hA hN hb
 go_wp2
 go_ret
 exact⟨N,rfl,HA.out.1,HA.out.2.1,HA.out.2.2⟩
theorem rclose_any (n:Nat) (h1:1≤n) (h8:n≤8) (p:Option Addr) (cap m:Nat) (L:List BR) (hl:L.length=m) (hm:m≤100000) (w:World) (hV:VecB w p L) (hva:∀ x∈L,vaB x.1=true) :
  Calls Tryz.prog 13 #[.slice p m cap,.int .i64 (n:Int)] w fun e w'=>∃ C,e=.returned (.slice (some ⟨C,0,none⟩) m m)∧NextAt w' C m (C+1) (cloR n L)∧w.heap.size≤C∧Below w.heap.size w w':=by
 have HV:=zN hV
 have HL:=zN hl
 have HVA:=zN hva
 have HK:=zN (fun w=>raround3_any n h1 h8 w)
 obtain⟨M,hM⟩:∃ M,M=(nodesL n).length:=⟨_,rfl⟩
 have HM:=zN hM
 have hMx:M≤1000000:=by rw[hM,nodes_len h1 h8];have:n*n≤64:=Nat.mul_le_mul h8 h8;have e:10*n*n=10*(n*n):=Nat.mul_assoc _ _ _;omega
 rw[←hM] at HK
 clear hV hl hva hM
 go_enter Tryz.func13,Tryz.ntmps13
 go_wp2_with fail
 refine (HK.out w).mono ?_
 rintro e w1 ⟨N,rfl,hA,hN,hb⟩
 have HA:=zN hA
 have HB1:=zN hb
 have HNL:=zN hN
 clear hA hb hN
 go_wp2
 go_loopw [18,6] (fun v18 v6 wr=>∃ k:Nat,k≤m∧v18=.int .i64 (k:Int)∧QRow wr w1.heap.size v6 (nodT n (L.take k))∧Below w1.heap.size w1 wr∧Hid (∀ x∈nodT n (L.take k),x < M)) (fun v18 _ _=>m-(intOf v18).toNat)
 case atStart=>exact⟨0,by omega,rfl,QRow.nil _ _,zBr _ _,zN (by intro x hx;simp[nodT] at hx)⟩
 case round=>
  obtain⟨k,hkn,rfl,hrow,hb,HLT⟩:=hrel
  by_cases hk:k < m
  ·have hdk:decide ((k:Int) < (m:Int))=true:=zDt (by omega)
   have hk0:(0:Int)≤(k:Int):=by omega
   have hk1:(k:Int) < (m:Int):=by omega
   have hkl:k < L.length:=by rw[HL.out];exact hk
   have hbw:Below w.heap.size w wr:=HB1.out.trans (hb.mono HB1.out.size)
   have hVw:=HV.out.below hbw
   obtain⟨bb,o,rfl,hbbl,hrp⟩:=hVw.cell (by omega)
   have hri:=hrp k hkl
   have hva:=HVA.out _ (List.getElem_mem hkl)
   have hok:=(hVw.r _ (List.getElem_mem hkl)).ex
   have HTK:Hid (nodT n (L.take (k+1))=nodT n (L.take k) ++ [nodN n (plB L[k].1)]):=zN (by
    unfold nodT;rw[List.take_succ_eq_append_getElem hkl,List.map_append];rfl)
   obtain⟨x,hx⟩:∃ x,x=L[k]:=⟨_,rfl⟩
   rw[←hx] at hri hva HTK hok
   obtain⟨hpk,e1,e2,e3,e4⟩:=plB_ok hva
   obtain⟨c0,c1,c2,c3,c4,c5,c6,c7,_⟩:=hri
   obtain⟨q,cq,hrd,_⟩:=hok
   obtain⟨nr,hnr⟩:∃ nr,nr=x.2.length:=⟨_,rfl⟩
   rw[hrd,←hnr] at c7
   rw[e1] at c3
   rw[e2] at c4
   rw[e3] at c5
   rw[e4] at c6
   obtain⟨P,hP⟩:∃ P,P=plB x.1:=⟨_,rfl⟩
   rw[←hP] at hpk c3 c4 c5 c6 HTK
   have HP:=zN hpk
   have HC:=zN (fun w'=>rnearest_any n h1 h8 P HP.out w')
   have hpv:Hid (pv P=.agg #[.int .i64 P.f,.int .i64 P.a,.int .i64 P.b,.int .i64 P.c]):=zN rfl
   rw[hpv.out] at HC
   obtain⟨T,hT⟩:∃ T,T=nodT n (L.take k):=⟨_,rfl⟩
   rw[←hT] at hrow HTK HLT
   have hTl:T.length=k:=by rw[hT];simp[nodT];omega
   have HTL:=zN hTl
   obtain⟨pt,cc,rfl,hcc⟩:=own_slice hrow
   have HROW:=zN hrow
   have HBR:=zN hb
   have HBA:Hid (Below wr.heap.size wr (wr.alloc (.cells #[.int .i64 x.1.kind,.string x.1.name,.int .i64 x.1.time,.int .i64 P.f,.int .i64 P.a,.int .i64 P.b,.int .i64 P.c,.slice q nr cq] 44))):=zN ((zBr _ _).alloc (Nat.le_refl _) _)
   clear hx e1 e2 e3 e4 hP hva hpk hVw hrp hbw hT hTl hrow hpv hrd hnr hb
   go_wp2_with fail
   refine (HC.out _).mono ?_
   rintro e w2 ⟨S,rfl,hS,hb2⟩
   have hnd:=nodN_lt h1 h8 HP.out hS
   rw[nodN_eq hS] at hnd
   rw[nodN_eq hS]
   obtain⟨nd,hnde⟩:∃ nd,nd=nodN n P:=⟨_,rfl⟩
   rw[←hnde] at hnd HTK ⊢
   have HLT2:Hid (∀ x∈T ++ [nd],x < M):=zN (by
    intro x hx
    rcases List.mem_append.1 hx with h|h
    ·exact HLT.out x h
    ·rw[List.mem_singleton.1 h,HM.out];exact hnd)
   have hb2':=HBA.out.trans (hb2.mono HBA.out.size)
   have HB2:=zN (HBR.out.trans (hb2'.mono HBR.out.size))
   have hrow3:=own_below HROW.out hb2'
   have hs3:=HB2.out.size
   have hTl:=HTL.out
   clear hS hnd hnde hb2 hb2' c0 c1 c2 c3 c4 c5 c6 c7 HBA HC
   obtain⟨tl,htl⟩:∃ tl,tl=T.length:=⟨_,rfl⟩
   have htk:tl≤100000:=by omega
   clear hTl
   go_wp2_with (refine RX.wpl_app (by rfl) elIn _ _ (by rfl) w1.heap.size _ _ _ (World.ownsRow.alloc hrow3 _) (by rfl) w2.heap.size _ 1 (by rfl) (heap_alloc_new _ _) (by rfl) (by simp[Value.oneCell']) (by have:=HTL.out;omega) (by have:=HTL.out;omega) (by simp;omega) ?_;intro vq w4 hown4 hb4 hg4 hat4;clear hat4)
   have HB4:=zN (HB2.out.trans (((zBr _ _).alloc (by omega) _).trans hb4))
   go_wp2
   go_roundw
   case rel=>exact⟨k+1,by omega,by go_num,by rw[HTK.out];exact QRow.snoc hown4,HB4.out,by rw[HTK.out];exact HLT2⟩
   case measure=>simp[intOf]<;>omega
  ·have hdk:decide ((k:Int) < (m:Int))=false:=zDf (by omega)
   obtain rfl:k=m:=by omega
   have hTk:L.take k=L:=List.take_of_length_le (by have:=HL.out;omega)
   rw[hTk] at hrow HLT
   have HNL2:Hid ((nodT n L).length=k):=zN (by rw[show (nodT n L).length=L.length by simp[nodT]];exact HL.out)
   obtain⟨p6,c6,rfl,hc6,hV6⟩:=hrow.rd
   rw[natI_len,HNL2.out]
   have HV6:=zN hV6
   have HBR:=zN hb
   clear hTk hrow hV6 hb hc6
   have hmk:=run_make_row' (P:=Tryz.prog) 35 22 (.slice none 0 0) 24 Tryz.underlying35 (by kernel_rfl) rfl .i64 .i64 k (by omega) (by omega)
   go_wp2
   generalize wr=W2 at *
   obtain⟨C,hC⟩:∃ C,C=W2.heap.size:=⟨_,rfl⟩
   have HC:=zN hC.symm
   have HBA:Hid (NextAt (W2.alloc (.cells (madeCells #[.slice none 0 0] k) 22)) C k (C+1) (cloTo n L 0 0)∧Below W2.heap.size W2 (W2.alloc (.cells (madeCells #[.slice none 0 0] k) 22))):=zN ⟨by rw[cloTo_zero,hC];exact NextAt.made _ _ _,(zBr _ _).alloc (Nat.le_refl _) _⟩
   rw[←hC]
   clear hC
   go_loopw [39] (fun v39 wr=>∃ i:Nat,i≤k∧v39=.int .i64 (i:Int)∧NextAt wr C k (C+1) (cloTo n L i 0)∧Below W2.heap.size W2 wr) (fun v39 _=>k-(intOf v39).toNat)
   case atStart=>exact⟨0,by omega,rfl,HBA.out.1,HBA.out.2⟩
   case round=>
    clear HBA
    obtain⟨i,hile,rfl,hNX,hbw⟩:=hrel
    by_cases hik:i < k
    ·have hdk:decide ((i:Int) < (k:Int))=true:=zDt (by omega)
     have hi0:(0:Int)≤(i:Int):=by omega
     have hi1:(i:Int) < (k:Int):=by omega
     have hil:i < L.length:=by rw[HL.out];exact hik
     have hbw2:Below w.heap.size w W2:=HB1.out.trans (HBR.out.mono HB1.out.size)
     obtain⟨bb,o,rfl,hbbl,hrp⟩:=(HV.out.below hbw2).cell (by omega)
     obtain⟨nb,on,rfl,hnbl,hnc⟩:=HV6.out.cell (by rw[natI_len,HNL2.out];omega)
     have HRP:=zN hrp
     have HNC:=zN hnc
     have HNX0:=zN hNX
     have HBW:=zN hbw
     clear hbw2 hrp hnc hNX hbw
     go_wp2
     go_loopw [44] (fun v44 wr=>∃ j:Nat,j≤k∧v44=.int .i64 (j:Int)∧NextAt wr C k (C+1) (cloTo n L i j)∧Below W2.heap.size W2 wr) (fun v44 _=>k-(intOf v44).toNat)
     case atStart=>exact⟨0,by omega,rfl,HNX0.out,HBW.out⟩
     case round=>
      clear HNX0 HBW
      obtain⟨j,hjle,rfl,hNX,hbw⟩:=hrel
      by_cases hjk:j < k
      ·have hdj:decide ((j:Int) < (k:Int))=true:=zDt (by omega)
       have hj0:(0:Int)≤(j:Int):=by omega
       have hj1:(j:Int) < (k:Int):=by omega
       have hjl:j < L.length:=by rw[HL.out];exact hjk
       have hbd:=hbw.drew
       have HBD:=zN hbd
       have HNX:Hid (NextAt wr.drew C k (C+1) (cloTo n L i j)):=zN (hNX.kept (row:=none) ((grw_below (zBd (zBr wr.heap.size wr)) none)) (fun k e=>by cases e) hNX.lt)
       have r1:=zP hbd (HRP.out i hil).c1
       have r2:=zP hbd (HRP.out j hjl).c1
       have n1:=zP hbd (HNC.out i (by rw[natI_len,HNL2.out];exact hik))
       have n2:=zP hbd (HNC.out j (by rw[natI_len,HNL2.out];exact hjk))
       have eni:(natI (nodT n L))[i]'(by rw[natI_len,HNL2.out];exact hik)=((nodN n (plB (bat L i).1):Nat):Int):=by
        rw[←nodT_get hil (by rw[HNL2.out];exact hik)];simp[natI]
       have enj:(natI (nodT n L))[j]'(by rw[natI_len,HNL2.out];exact hjk)=((nodN n (plB (bat L j).1):Nat):Int):=by
        rw[←nodT_get hjl (by rw[HNL2.out];exact hjk)];simp[natI]
       rw[eni] at n1
       rw[enj] at n2
       rw[←bat_eq hil] at r1
       rw[←bat_eq hjl] at r2
       have haM:nodN n (plB (bat L i).1) < M:=by
        have h:=HLT.out _ (List.getElem_mem (show i < (nodT n L).length by rw[HNL2.out];exact hik))
        rwa[nodT_get hil] at h
       have HCD:Hid (cloN n L i j=(decide ((bat L i).1.name≠(bat L j).1.name) && cloB n (nodN n (plB (bat L i).1)) (nodN n (plB (bat L j).1)))):=zN rfl
       generalize nodN n (plB (bat L i).1)=a at *
       generalize nodN n (plB (bat L j).1)=b at *
       generalize (bat L i).1.name=s1 at *
       generalize (bat L j).1.name=s2 at *
       obtain⟨pA,cA,kA,hRd⟩:=(HA.out.below (HBR.out)).rdc haM
       have kA2:=zP hbd kA
       have ha0:(0:Int)≤(a:Int):=by omega
       have ha1:(a:Int) < (M:Int):=by omega
       have hnl:=next_len h1 h8 a
       have HKI:=zN (kin_any _ (nextL n a) (b:Int) wr.drew (hRd.below hbd) (by omega))
       obtain⟨ln,hln⟩:∃ ln,ln=(nextL n a).length:=⟨_,rfl⟩
       rw[←hln] at kA2 HKI
       have hSS:wr.drew.cell? ⟨bb,o+i*8+1,none⟩=some (.string s1)∧wr.drew.cell? ⟨bb,o+j*8+1,none⟩=some (.string s2)∧wr.drew.cell? ⟨nb,on+i,none⟩=some (.int .i64 (a:Int))∧wr.drew.cell? ⟨nb,on+j,none⟩=some (.int .i64 (b:Int))∧wr.drew.cell? ⟨N,a,none⟩=some (.slice pA ln cA):=⟨r1,r2,n1,n2,kA2⟩
       clear hNX hbw hbd r1 r2 n1 n2 eni enj kA kA2 hRd hnl hln haM
       by_cases hnm:s1=s2
       ·have HCN:Hid (cloN n L i j=false):=zN (by rw[HCD.out,hnm];simp)
        have hnb:=(str_eq hnm).1
        have hnt:=(str_eq hnm).2
        have hnc:(s1 != s2)=false:=by unfold bne;rw[hnb];rfl
        have hnu:(s1.toList != s2.toList)=false:=by unfold bne;rw[hnt];rfl
        clear hnm HKI HCD
        go_wp2_with fail
        refine RX.region RX.fN (fun w'=>w'=wr.drew) (by kernel_rfl) (by kernel_rfl) (rfl) (fun OPS HO QR hQR=>?_)
        repeat (refine zeX (fun R hR=>?_);(first|refine zaX (by first|rfl|(rw[HO.out];rfl)) (by simp only[zA,zB,zC,zD];rfl) ?_|refine zbX (by first|rfl|(rw[HO.out];rfl)) rfl (by first|exact .inl rfl|exact .inr rfl) (by simp only[zE,zF,zG,zH];rfl) (by simp only[zA,zB,zC,zD];rfl) ?_|refine zcX (by first|rfl|(rw[HO.out];rfl)) rfl rfl (by simp only[zE,zF,zG,zH];rfl) (by simp only[zA,zB,zC,zD];rfl) ?_|(refine zdX (by first|rfl|(rw[HO.out];rfl)) rfl rfl rfl ?_;apply zEx;apply zEx;refine⟨fun w' hS K hK=>?_,?_,?_⟩;(focus ((subst hS;obtain⟨x0,x1,x2,x3,x4⟩:=hSS);go_wp2;exact hK _ _ (by simp only[zl,zG,zH];first|exact zf (by omega)|exact zg (by omega)|exact zh (by omega)|exact zi (by omega)|exact zj (by omega)|exact zk (by omega)|exact RX.bneB _|rfl) rfl));(focus (simp only[zA,zB,zC,zD];rfl))));refine hR _ _ ?_;clear hR R)
        clear hSS
        refine RX.wpL_nil (hQR _ _ (rfl) ?_);clear hQR QR HO OPS
        go_wp2
        go_roundw
        case rel=>exact⟨j+1,by omega,by go_num,by rw[cloTo_no HCN.out];exact HNX.out,HBD.out⟩
        case measure=>simp[intOf]<;>omega
       ·have hnb:=(str_ne hnm).1
        have hnt:=(str_ne hnm).2
        have hnc:(s1 != s2)=true:=by unfold bne;rw[hnb];rfl
        have hnu:(s1.toList != s2.toList)=true:=by unfold bne;rw[hnt];rfl
        have HCE:Hid (cloN n L i j=(decide (a=b) || decide ((b:Int)∈nextL n a))):=zN (by rw[HCD.out,cloB_mem];simp[hnm])
        clear hnm HCD
        by_cases hab:a=b
        ·have hbe:((a:Int) == (b:Int))=true:=by rw[beq_iff_eq];omega
         have HCN:Hid (cloN n L i j=true):=zN (by rw[HCE.out,zDt hab];rfl)
         clear HKI HCE hab
         go_wp2_with fail
         refine RX.region RX.fN (fun w'=>w'=wr.drew) (by kernel_rfl) (by kernel_rfl) (rfl) (fun OPS HO QR hQR=>?_)
         repeat (refine zeX (fun R hR=>?_);(first|refine zaX (by first|rfl|(rw[HO.out];rfl)) (by simp only[zA,zB,zC,zD];rfl) ?_|refine zbX (by first|rfl|(rw[HO.out];rfl)) rfl (by first|exact .inl rfl|exact .inr rfl) (by simp only[zE,zF,zG,zH];rfl) (by simp only[zA,zB,zC,zD];rfl) ?_|refine zcX (by first|rfl|(rw[HO.out];rfl)) rfl rfl (by simp only[zE,zF,zG,zH];rfl) (by simp only[zA,zB,zC,zD];rfl) ?_|(refine zdX (by first|rfl|(rw[HO.out];rfl)) rfl rfl rfl ?_;apply zEx;apply zEx;refine⟨fun w' hS K hK=>?_,?_,?_⟩;(focus ((subst hS;obtain⟨x0,x1,x2,x3,x4⟩:=hSS);go_wp2;exact hK _ _ (by simp only[zl,zG,zH];first|exact zf (by omega)|exact zg (by omega)|exact zh (by omega)|exact zi (by omega)|exact zj (by omega)|exact zk (by omega)|exact RX.bneB _|rfl) rfl));(focus (simp only[zA,zB,zC,zD];rfl))));refine hR _ _ ?_;clear hR R)
         clear hSS
         refine RX.wpL_nil (hQR _ _ (rfl) ?_);clear hQR QR HO OPS
         have hNX:=HNX.out
         obtain⟨W5,hW5⟩:∃ W5,W5=wr.drew:=⟨_,rfl⟩
         rw[←hW5] at hNX HBD ⊢
         clear hW5
         obtain⟨vs,hr,ho,hd⟩:=hNX
         obtain⟨pa,ca,hva,hca⟩:=own_slice (ho i hik)
         have kc:=hr.cell hik
         have kf:=hr.frozen i
         have hoa:=ho i hik
         rw[hva] at kc hoa
         have hll:=cloTo_len n L i j i (by have:=HL.out;omega)
         obtain⟨la,hla⟩:∃ la,la=(cloTo n L i j i).length:=⟨_,rfl⟩
         rw[←hla] at kc hoa hva hca
         have hla2:la≤100000:=by rw[hla];have:=HL.out;omega
         have HXA:=zN (And.intro hr (And.intro ho hd))
         have HLA:=zN (And.intro hva hla)
         have hC5:=HBD.out.size
         have hCl:C < W5.heap.size:=zM W5 _ kc
         clear hr ho hd hva hla hll
         go_wp2_with (refine RX.wpl_app (by rfl) elIn _ _ (by rfl) (C+1) _ _ _ (World.ownsRow.alloc hoa _) (by rfl) W5.heap.size _ 1 (by rfl) (heap_alloc_new _ _) (by rfl) (by simp[Value.oneCell']) (by omega) (by omega) (by simp;omega) ?_;intro vq w4 hown4 hb4 hg4 hat4;have hg5:W5.grownBy w4 (Value.slice pa la ca).ownBlock:=(World.grownBy_alloc W5 _ _).trans hg4;have hnC:some C≠(Value.slice pa la ca).ownBlock:=(fun e=>by have:=(World.ownsRow.lt hoa C e.symm).1;omega);have y0:=hg5.cell kc hnC;have y1:w4.frozen? ⟨C,i,none⟩=false:=(zFb (hg5.block C hCl hnC)).trans kf;obtain⟨pq,cq,hvq,_⟩:=own_slice hown4;subst hvq;have HW4:=zN (And.intro hown4 (And.intro hb4 (And.intro hg5 hat4)));clear hown4 hb4 hg4 hg5 hat4 kc kf hoa hnC)
         have HNN:Hid (NextAt (w4.setCell ⟨C,i,none⟩ (.slice pq (la+1) cq)) C k (C+1) (cloTo n L i (j+1))):=zN (by
          obtain⟨e1,e2⟩:=HLA.out
          obtain⟨q1,q2,q3⟩:=HXA.out
          obtain⟨o1,o2,o3,o4⟩:=HW4.out
          rw[cloTo_add HCN.out]
          exact NextAt.push (b0:=(W5.alloc (.cells #[.int .i64 (j:Int)] 3)).heap.size) q1 q2 q3 hik (by rw[e1];exact o3) (by rw[←e2];exact o1) (by rw[e1];exact o4) (by simp) (Nat.lt_succ_self _))
         have HBN:Hid (Below W2.heap.size W2 (w4.setCell ⟨C,i,none⟩ (.slice pq (la+1) cq))):=zN (by
          obtain⟨o1,o2,o3,o4⟩:=HW4.out
          exact (HBD.out.trans (((zBr _ _).alloc hC5 _).trans (o2.mono (by rw[HC.out];exact Nat.le_succ _)))).setCell (by rw[HC.out];exact Nat.le_refl _) _)
         clear HW4
         go_wp2
         go_roundw
         case rel=>exact⟨j+1,by omega,by go_num,HNN.out,HBN.out⟩
         case measure=>simp[intOf]<;>omega
        ·have hbe:((a:Int) == (b:Int))=false:=by rw[beq_eq_false_iff_ne];omega
         have HCF:Hid (cloN n L i j=decide ((b:Int)∈nextL n a)):=zN (by rw[HCE.out,zDf hab];rfl)
         clear HCE hab
         generalize decide ((b:Int)∈nextL n a)=d at *
         cases d with
         |false=>
          have HCN:Hid (cloN n L i j=false):=zN HCF.out
          go_wp2_with fail
          refine RX.region RX.fN (fun w'=>w'=wr.drew) (by kernel_rfl) (by kernel_rfl) (rfl) (fun OPS HO QR hQR=>?_)
          repeat (refine zeX (fun R hR=>?_);(first|refine zaX (by first|rfl|(rw[HO.out];rfl)) (by simp only[zA,zB,zC,zD];rfl) ?_|refine zbX (by first|rfl|(rw[HO.out];rfl)) rfl (by first|exact .inl rfl|exact .inr rfl) (by simp only[zE,zF,zG,zH];rfl) (by simp only[zA,zB,zC,zD];rfl) ?_|refine zcX (by first|rfl|(rw[HO.out];rfl)) rfl rfl (by simp only[zE,zF,zG,zH];rfl) (by simp only[zA,zB,zC,zD];rfl) ?_|(refine zdX (by first|rfl|(rw[HO.out];rfl)) rfl rfl rfl ?_;apply zEx;apply zEx;refine⟨fun w' hS K hK=>?_,?_,?_⟩;(focus ((subst hS;obtain⟨x0,x1,x2,x3,x4⟩:=hSS);go_wp2;exact hK _ _ (by simp only[zl,zG,zH];first|exact zf (by omega)|exact zg (by omega)|exact zh (by omega)|exact zi (by omega)|exact zj (by omega)|exact zk (by omega)|exact RX.bneB _|rfl) rfl));(focus (simp only[zA,zB,zC,zD];rfl))));refine hR _ _ ?_;clear hR R)
          refine zeX (fun R hR=>?_)
          refine zgX (by first|rfl|(rw[HO.out];rfl)) rfl (fun K hK=>?_)
          go_wp2_with fail
          refine HKI.out.mono ?_
          rintro e w3 ⟨rfl,rfl⟩
          refine hK _ _ ⟨rfl,hR _ _ ?_⟩;clear hK K hR R
          repeat (refine zeX (fun R hR=>?_);(first|refine zaX (by first|rfl|(rw[HO.out];rfl)) (by simp only[zA,zB,zC,zD];rfl) ?_|refine zbX (by first|rfl|(rw[HO.out];rfl)) rfl (by first|exact .inl rfl|exact .inr rfl) (by simp only[zE,zF,zG,zH];rfl) (by simp only[zA,zB,zC,zD];rfl) ?_|refine zcX (by first|rfl|(rw[HO.out];rfl)) rfl rfl (by simp only[zE,zF,zG,zH];rfl) (by simp only[zA,zB,zC,zD];rfl) ?_|(refine zdX (by first|rfl|(rw[HO.out];rfl)) rfl rfl rfl ?_;apply zEx;apply zEx;refine⟨fun w' hS K hK=>?_,?_,?_⟩;(focus ((subst hS;obtain⟨x0,x1,x2,x3,x4⟩:=hSS);go_wp2;exact hK _ _ (by simp only[zl,zG,zH];first|exact zf (by omega)|exact zg (by omega)|exact zh (by omega)|exact zi (by omega)|exact zj (by omega)|exact zk (by omega)|exact RX.bneB _|rfl) rfl));(focus (simp only[zA,zB,zC,zD];rfl))));refine hR _ _ ?_;clear hR R)
          clear hSS
          refine RX.wpL_nil (hQR _ _ (rfl) ?_);clear hQR QR HO OPS
          go_wp2
          go_roundw
          case rel=>exact⟨j+1,by omega,by go_num,by rw[cloTo_no HCN.out];exact HNX.out,HBD.out⟩
          case measure=>simp[intOf]<;>omega
         |true=>
          have HCN:Hid (cloN n L i j=true):=zN HCF.out
          go_wp2_with fail
          refine RX.region RX.fN (fun w'=>w'=wr.drew) (by kernel_rfl) (by kernel_rfl) (rfl) (fun OPS HO QR hQR=>?_)
          repeat (refine zeX (fun R hR=>?_);(first|refine zaX (by first|rfl|(rw[HO.out];rfl)) (by simp only[zA,zB,zC,zD];rfl) ?_|refine zbX (by first|rfl|(rw[HO.out];rfl)) rfl (by first|exact .inl rfl|exact .inr rfl) (by simp only[zE,zF,zG,zH];rfl) (by simp only[zA,zB,zC,zD];rfl) ?_|refine zcX (by first|rfl|(rw[HO.out];rfl)) rfl rfl (by simp only[zE,zF,zG,zH];rfl) (by simp only[zA,zB,zC,zD];rfl) ?_|(refine zdX (by first|rfl|(rw[HO.out];rfl)) rfl rfl rfl ?_;apply zEx;apply zEx;refine⟨fun w' hS K hK=>?_,?_,?_⟩;(focus ((subst hS;obtain⟨x0,x1,x2,x3,x4⟩:=hSS);go_wp2;exact hK _ _ (by simp only[zl,zG,zH];first|exact zf (by omega)|exact zg (by omega)|exact zh (by omega)|exact zi (by omega)|exact zj (by omega)|exact zk (by omega)|exact RX.bneB _|rfl) rfl));(focus (simp only[zA,zB,zC,zD];rfl))));refine hR _ _ ?_;clear hR R)
          refine zeX (fun R hR=>?_)
          refine zgX (by first|rfl|(rw[HO.out];rfl)) rfl (fun K hK=>?_)
          go_wp2_with fail
          refine HKI.out.mono ?_
          rintro e w3 ⟨rfl,rfl⟩
          refine hK _ _ ⟨rfl,hR _ _ ?_⟩;clear hK K hR R
          repeat (refine zeX (fun R hR=>?_);(first|refine zaX (by first|rfl|(rw[HO.out];rfl)) (by simp only[zA,zB,zC,zD];rfl) ?_|refine zbX (by first|rfl|(rw[HO.out];rfl)) rfl (by first|exact .inl rfl|exact .inr rfl) (by simp only[zE,zF,zG,zH];rfl) (by simp only[zA,zB,zC,zD];rfl) ?_|refine zcX (by first|rfl|(rw[HO.out];rfl)) rfl rfl (by simp only[zE,zF,zG,zH];rfl) (by simp only[zA,zB,zC,zD];rfl) ?_|(refine zdX (by first|rfl|(rw[HO.out];rfl)) rfl rfl rfl ?_;apply zEx;apply zEx;refine⟨fun w' hS K hK=>?_,?_,?_⟩;(focus ((subst hS;obtain⟨x0,x1,x2,x3,x4⟩:=hSS);go_wp2;exact hK _ _ (by simp only[zl,zG,zH];first|exact zf (by omega)|exact zg (by omega)|exact zh (by omega)|exact zi (by omega)|exact zj (by omega)|exact zk (by omega)|exact RX.bneB _|rfl) rfl));(focus (simp only[zA,zB,zC,zD];rfl))));refine hR _ _ ?_;clear hR R)
          clear hSS
          refine RX.wpL_nil (hQR _ _ (rfl) ?_);clear hQR QR HO OPS
          have hNX:=HNX.out
          obtain⟨W5,hW5⟩:∃ W5,W5=wr.drew:=⟨_,rfl⟩
          rw[←hW5] at hNX HBD ⊢
          clear hW5
          obtain⟨vs,hr,ho,hd⟩:=hNX
          obtain⟨pa,ca,hva,hca⟩:=own_slice (ho i hik)
          have kc:=hr.cell hik
          have kf:=hr.frozen i
          have hoa:=ho i hik
          rw[hva] at kc hoa
          have hll:=cloTo_len n L i j i (by have:=HL.out;omega)
          obtain⟨la,hla⟩:∃ la,la=(cloTo n L i j i).length:=⟨_,rfl⟩
          rw[←hla] at kc hoa hva hca
          have hla2:la≤100000:=by rw[hla];have:=HL.out;omega
          have HXA:=zN (And.intro hr (And.intro ho hd))
          have HLA:=zN (And.intro hva hla)
          have hC5:=HBD.out.size
          have hCl:C < W5.heap.size:=zM W5 _ kc
          clear hr ho hd hva hla hll
          go_wp2_with (refine RX.wpl_app (by rfl) elIn _ _ (by rfl) (C+1) _ _ _ (World.ownsRow.alloc hoa _) (by rfl) W5.heap.size _ 1 (by rfl) (heap_alloc_new _ _) (by rfl) (by simp[Value.oneCell']) (by omega) (by omega) (by simp;omega) ?_;intro vq w4 hown4 hb4 hg4 hat4;have hg5:W5.grownBy w4 (Value.slice pa la ca).ownBlock:=(World.grownBy_alloc W5 _ _).trans hg4;have hnC:some C≠(Value.slice pa la ca).ownBlock:=(fun e=>by have:=(World.ownsRow.lt hoa C e.symm).1;omega);have y0:=hg5.cell kc hnC;have y1:w4.frozen? ⟨C,i,none⟩=false:=(zFb (hg5.block C hCl hnC)).trans kf;obtain⟨pq,cq,hvq,_⟩:=own_slice hown4;subst hvq;have HW4:=zN (And.intro hown4 (And.intro hb4 (And.intro hg5 hat4)));clear hown4 hb4 hg4 hg5 hat4 kc kf hoa hnC)
          have HNN:Hid (NextAt (w4.setCell ⟨C,i,none⟩ (.slice pq (la+1) cq)) C k (C+1) (cloTo n L i (j+1))):=zN (by
           obtain⟨e1,e2⟩:=HLA.out
           obtain⟨q1,q2,q3⟩:=HXA.out
           obtain⟨o1,o2,o3,o4⟩:=HW4.out
           rw[cloTo_add HCN.out]
           exact NextAt.push (b0:=(W5.alloc (.cells #[.int .i64 (j:Int)] 3)).heap.size) q1 q2 q3 hik (by rw[e1];exact o3) (by rw[←e2];exact o1) (by rw[e1];exact o4) (by simp) (Nat.lt_succ_self _))
          have HBN:Hid (Below W2.heap.size W2 (w4.setCell ⟨C,i,none⟩ (.slice pq (la+1) cq))):=zN (by
           obtain⟨o1,o2,o3,o4⟩:=HW4.out
           exact (HBD.out.trans (((zBr _ _).alloc hC5 _).trans (o2.mono (by rw[HC.out];exact Nat.le_succ _)))).setCell (by rw[HC.out];exact Nat.le_refl _) _)
          clear HW4
          go_wp2
          go_roundw
          case rel=>exact⟨j+1,by omega,by go_num,HNN.out,HBN.out⟩
          case measure=>simp[intOf]<;>omega
      ·have hdj:decide ((j:Int) < (k:Int))=false:=zDf (by omega)
       obtain rfl:j=k:=by omega
       have HNN:=zN (hNX.congr (ls':=cloTo n L (i+1) 0) (fun a _=>by have h:=cloTo_next n L i a;rw[HL.out] at h;exact h))
       have HBN:=zN hbw
       clear hNX hbw
       go_wp2
       go_roundw
       case rel=>exact⟨i+1,by omega,by go_num,HNN.out,HBN.out⟩
       case measure=>simp[intOf]<;>omega
    ·have hdk:decide ((i:Int) < (k:Int))=false:=zDf (by omega)
     obtain rfl:i=k:=by omega
     have HF:=zN (And.intro (hNX.congr (ls':=cloR n L) (fun a ha=>by
      unfold cloTo cloR
      rw[if_pos ha])) hbw)
     clear hNX hbw
     go_wp2
     go_ret
     exact⟨C,rfl,HF.out.1,by have:=HB1.out.size;have:=HBR.out.size;have:=HC.out;omega,(HB1.out.trans (HBR.out.mono HB1.out.size)).trans (HF.out.2.mono (by have:=HB1.out.size;have:=HBR.out.size;omega))⟩
end Go.Proofs.YtednaajanciabaaGreatDoor
