import Derived.Test.YtojkamfabapcoaaGreatDoorKPrec
import Derived.Test.YtojkamfabapcoaaGreatDoorKRegion
import Derived.Test.YtojkamfabapcoaaGreatDoorKPlace
import Derived.BigQuiet
import Derived.Test.YtojkamfabapcoaaGreatDoorApply
set_option maxRecDepth 100000
set_option maxHeartbeats 8000000
set_option linter.unusedSimpArgs false
set_option linter.unusedVariables false
namespace Go.Proofs.YtojkamfabapcoaaGreatDoor
open Go.RowKit Go.Grid
structure Rw where
 sh:List (Int × Int)
 value:Int
 weight:Int
 report:Int
def ShIn (w:World) (p:Option Addr) (S:List (Int × Int)):Prop:=∃ b o,(0 < S.length→p=some ⟨b,o,none⟩)∧∀ k (h:k < S.length),w.cell? ⟨b,o+k*2,none⟩=some (.int .i64 S[k].1)∧w.cell? ⟨b,o+k*2+1,none⟩=some (.int .i64 S[k].2)
def RwAt (w:World) (b o:Nat) (r:Rw):Prop:=∃ q cap,w.cell? ⟨b,o,none⟩=some (.slice q r.sh.length cap)∧r.sh.length≤cap∧ShIn w q r.sh∧w.cell? ⟨b,o+1,none⟩=some (.int .i64 r.value)∧w.cell? ⟨b,o+2,none⟩=some (.int .i64 r.weight)∧w.cell? ⟨b,o+3,none⟩=some (.int .i64 r.report)
def RwIn (w:World) (p:Option Addr) (R:List Rw):Prop:=∃ b o,(0 < R.length→p=some ⟨b,o,none⟩)∧∀ k (h:k < R.length),RwAt w b (o+k*4) R[k]
theorem ShIn.below {w w':World} {p:Option Addr} {S:List (Int × Int)} (h:ShIn w p S) (hb:Below w.heap.size w w'):ShIn w' p S:=by
 obtain⟨b,o,h1,h2⟩:=h
 exact⟨b,o,h1,fun k hk=>⟨zP hb (h2 k hk).1,zP hb (h2 k hk).2⟩⟩
theorem RwAt.below {w w':World} {b o:Nat} {r:Rw} (h:RwAt w b o r) (hb:Below w.heap.size w w'):RwAt w' b o r:=by
 obtain⟨q,cap,h1,h2,h3,h4,h5,h6⟩:=h
 exact⟨q,cap,zP hb h1,h2,h3.below hb,zP hb h4,zP hb h5,zP hb h6⟩
theorem RwIn.below {w w':World} {p:Option Addr} {R:List Rw} (h:RwIn w p R) (hb:Below w.heap.size w w'):RwIn w' p R:=by
 obtain⟨b,o,h1,h2⟩:=h
 exact⟨b,o,h1,fun k hk=>(h2 k hk).below hb⟩
def AscA (S:List (Int × Int)):Prop:=∀ i (h:i+1 < S.length),S[i].1 < S[i+1].1
def ShOk (nodes:Int) (c:Int × Int):Prop:=(0≤c.1∧c.1 < nodes)∧1≤c.2∧c.2≤840
def sumI (S:List (Int × Int)):Int:=(S.map (fun c=>c.2)).sum
def RowOk (nodes:Int) (r:Rw) (target:Int):Prop:=(∀ c∈r.sh,ShOk nodes c)∧sumI r.sh=840∧(1≤r.weight∧r.weight≤100)∧-4294967296≤target∧target≤4294967296
open Classical in
noncomputable def rowErr (nodes:Int) (r:Rw) (target:Int):Int:=if AscA r.sh then (if RowOk nodes r target then 0 else 1) else 8
theorem rowErr_order {nodes target:Int} {r:Rw} (h:¬ AscA r.sh):rowErr nodes r target=8:=if_neg h
theorem rowErr_range {nodes target:Int} {r:Rw} (h:AscA r.sh) (h2:¬ RowOk nodes r target):rowErr nodes r target=1:=by unfold rowErr;rw[if_pos h,if_neg h2]
theorem rowErr_ok {nodes target:Int} {r:Rw} (h:AscA r.sh) (h2:RowOk nodes r target):rowErr nodes r target=0:=by unfold rowErr;rw[if_pos h,if_pos h2]
theorem rowErr_zero {nodes target:Int} {r:Rw}:rowErr nodes r target=0↔AscA r.sh∧RowOk nodes r target:=by
 constructor
 ·intro h
  by_cases h1:AscA r.sh
  ·by_cases h2:RowOk nodes r target
   ·exact⟨h1,h2⟩
   ·rw[rowErr_range h1 h2] at h;omega
  ·rw[rowErr_order h1] at h;omega
 ·rintro⟨h1,h2⟩;exact rowErr_ok h1 h2
theorem sumI_take {S:List (Int × Int)} {i:Nat} (hi:i < S.length):sumI (S.take (i+1))=sumI (S.take i)+S[i].2:=by
 unfold sumI
 rw[List.take_succ_eq_append_getElem hi,List.map_append,List.sum_append];simp
theorem asc_lt {S:List (Int × Int)} (h:AscA S):∀ i (hi:i < S.length),∀ j (hj:j < i),S[j].1+(i-j:Nat)≤S[i].1
 |0,hi,j,hj=>by omega
 |i+1,hi,j,hj=>by
  have h1:=h i hi
  by_cases e:j=i
  ·subst e;rw[show j+1-j=1 by omega];omega
  ·have ih:=asc_lt h i (by omega) j (by omega)
   have:((i+1-j:Nat):Int)=((i-j:Nat):Int)+1:=by omega
   omega
theorem asc_le {S:List (Int × Int)} {nodes:Int} (h:AscA S) {k:Nat} (hk:k < S.length) (hr:∀ i (hi:i < S.length),i≤k→ShOk nodes S[i]):(k:Int) < nodes:=by
 have h0:=hr 0 (by omega) (by omega)
 have h1:=hr k hk (Nat.le_refl _)
 rcases Nat.eq_zero_or_pos k with e|e
 ·subst e;unfold ShOk at h1;omega
 ·have:=asc_lt h k hk 0 e
  unfold ShOk at h0 h1
  have e2:((k-0:Nat):Int)=k:=by omega
  omega
theorem sumI_bd {S:List (Int × Int)} {nodes:Int}:∀ k,k≤S.length→(∀ i (hi:i < S.length),i < k→ShOk nodes S[i])→0≤sumI (S.take k)∧sumI (S.take k)≤840*k
 |0,_,_=>by simp[sumI]
 |k+1,hk,hr=>by
  have ih:=sumI_bd (S:=S) k (by omega) (fun i hi h=>hr i hi (by omega))
  have h:=hr k (by omega) (by omega)
  rw[sumI_take (by omega)]
  unfold ShOk at h
  omega
noncomputable def rowsErr (nodes:Int):List Rw→List Int→Int
 |r :: R,t :: T=>if rowErr nodes r t=0 then rowsErr nodes R T else rowErr nodes r t
 |_,_=>0
theorem rowsErr_all {nodes:Int}:∀ {R:List Rw} {T:List Int},(∀ i (h1:i < R.length) (h2:i < T.length),rowErr nodes R[i] T[i]=0)→rowsErr nodes R T=0
 |[],_,_=>by simp[rowsErr]
 |_ :: _,[],_=>by simp[rowsErr]
 |r :: R,t :: T,h=>by
  have h0:=h 0 (by simp) (by simp)
  simp only[List.getElem_cons_zero] at h0
  rw[rowsErr,if_pos h0]
  exact rowsErr_all (fun i h1 h2=>by have:=h (i+1) (by simpa using h1) (by simpa using h2);simpa using this)
theorem rowsErr_first {nodes:Int}:∀ {R:List Rw} {T:List Int} {k:Nat} (h1:k < R.length) (h2:k < T.length),(∀ i (h1:i < R.length) (h2:i < T.length),i < k→rowErr nodes R[i] T[i]=0)→rowErr nodes R[k] T[k]≠0→rowsErr nodes R T=rowErr nodes R[k] T[k]
 |r :: R,t :: T,0,_,_,_,hne=>by
  simp only[List.getElem_cons_zero] at hne ⊢
  rw[rowsErr,if_neg hne]
 |r :: R,t :: T,k+1,h1,h2,h,hne=>by
  have h0:=h 0 (by simp) (by simp) (by omega)
  simp only[List.getElem_cons_zero] at h0
  simp only[List.getElem_cons_succ] at hne ⊢
  rw[rowsErr,if_pos h0]
  exact rowsErr_first (by simpa using h1) (by simpa using h2) (fun i a b c=>by have:=h (i+1) (by simpa using a) (by simpa using b) (by omega);simpa using this) hne
structure Sy where
 f:Int
 s:Int
 a:Int
 rows:List Rw
 targets:List Int
open Classical in
noncomputable def sysErr (S:Sy):Int:=if ¬ PrOk S.f S.s S.a then 1 else if 200 < S.rows.length then 2 else if S.targets.length≠S.rows.length then 1 else rowsErr (10*S.f*S.f+2) S.rows S.targets
theorem sysErr_pr {S:Sy} (h:¬ PrOk S.f S.s S.a):sysErr S=1:=if_pos h
theorem sysErr_many {S:Sy} (h:PrOk S.f S.s S.a) (h2:200 < S.rows.length):sysErr S=2:=by unfold sysErr;rw[if_neg (fun e=>e h),if_pos h2]
theorem sysErr_len {S:Sy} (h:PrOk S.f S.s S.a) (h2:¬ 200 < S.rows.length) (h3:S.targets.length≠S.rows.length):sysErr S=1:=by unfold sysErr;rw[if_neg (fun e=>e h),if_neg h2,if_pos h3]
theorem sysErr_rows {S:Sy} (h:PrOk S.f S.s S.a) (h2:¬ 200 < S.rows.length) (h3:S.targets.length=S.rows.length):sysErr S=rowsErr (10*S.f*S.f+2) S.rows S.targets:=by unfold sysErr;rw[if_neg (fun e=>e h),if_neg h2,if_neg (fun e=>e h3)]
def SysIn (w:World) (v:Value) (S:Sy):Prop:=∃ p1 c1 p2 c2,v=.agg #[.int .i64 S.f,.int .i64 S.s,.int .i64 S.a,.slice p1 S.rows.length c1,.slice p2 S.targets.length c2]∧S.rows.length≤c1∧S.targets.length≤c2∧RwIn w p1 S.rows∧VecAt w p2 S.targets
theorem SysIn.below {w w':World} {v:Value} {S:Sy} (h:SysIn w v S) (hb:Below w.heap.size w w'):SysIn w' v S:=by
 obtain⟨p1,c1,p2,c2,h1,h2,h3,h4,h5⟩:=h
 exact⟨p1,c1,p2,c2,h1,h2,h3,h4.below hb,h5.below hb⟩
theorem cwithin_any (n lo hi:Int) (w:World):Calls Tryz.prog 98 #[.int .i64 n,.int .i64 lo,.int .i64 hi] w fun e w'=>e=.returned (.bool (decide (lo≤n) && decide (n≤hi)))∧w=w':=by
 by_cases h:lo≤n
 ·by_cases h2:n≤hi
  ·go_enter Tryz.func98,Tryz.ntmps98
   go_wp2
   go_ret
   simp[h,h2]
  ·go_enter Tryz.func98,Tryz.ntmps98
   go_wp2
   go_ret
   simp[h2]
 ·go_enter Tryz.func98,Tryz.ntmps98
  go_wp2
  go_ret
  simp;omega
theorem cwithin_yes (n lo hi:Int) (w:World) (h:lo≤n∧n≤hi):Calls Tryz.prog 98 #[.int .i64 n,.int .i64 lo,.int .i64 hi] w fun e w'=>e=.returned (.bool true)∧w=w':=by
 refine (cwithin_any n lo hi w).mono ?_
 rintro e w' ⟨rfl,rfl⟩
 simp[h.1,h.2]
theorem cwithin_no (n lo hi:Int) (w:World) (h:¬ (lo≤n∧n≤hi)):Calls Tryz.prog 98 #[.int .i64 n,.int .i64 lo,.int .i64 hi] w fun e w'=>e=.returned (.bool false)∧w=w':=by
 refine (cwithin_any n lo hi w).mono ?_
 rintro e w' ⟨rfl,rfl⟩
 refine⟨?_,rfl⟩
 have:(decide (lo≤n) && decide (n≤hi))=false:=by
  rw[Bool.and_eq_false_iff,decide_eq_false_iff_not,decide_eq_false_iff_not];omega
 rw[this]
theorem ShIn.get {w:World} {q:Option Addr} {S:List (Int × Int)} (h:ShIn w q S) (h0:0 < S.length):∃ b o,q=some ⟨b,o,none⟩∧b < w.heap.size∧∀ k (h:k < S.length),w.cell? ⟨b,o+k*2,none⟩=some (.int .i64 S[k].1)∧w.cell? ⟨b,o+k*2+1,none⟩=some (.int .i64 S[k].2):=by
 obtain⟨b,o,h1,h2⟩:=h
 exact⟨b,o,h1 h0,zM _ _ (h2 0 h0).1,h2⟩
theorem crow_any (r:Rw) (q:Option Addr) (cap:Nat) (target nodes:Int) (w:World) (hS:ShIn w q r.sh) (hc:r.sh.length≤cap) (hl:r.sh.length≤9223372036854775807) (hn:1≤nodes∧nodes≤1000) :
  Calls Tryz.prog 57 #[.agg #[.slice q r.sh.length cap,.int .i64 r.value,.int .i64 r.weight,.int .i64 r.report],.int .i64 target,.int .i64 nodes] w fun e w'=>e=.returned (.int .i64 (rowErr nodes r target))∧Below w.heap.size w w':=by
 obtain⟨S,hSe⟩:∃ S,S=r.sh:=⟨_,rfl⟩
 have HE:Hid ((¬ AscA S→rowErr nodes r target=8)∧(AscA S→¬ RowOk nodes r target→rowErr nodes r target=1)∧(AscA S→RowOk nodes r target→rowErr nodes r target=0)):=zN (by rw[hSe];exact⟨rowErr_order,rowErr_range,rowErr_ok⟩)
 have HOK:Hid (RowOk nodes r target↔(∀ c∈S,ShOk nodes c)∧sumI S=840∧(1≤r.weight∧r.weight≤100)∧-4294967296≤target∧target≤4294967296):=zN (by rw[hSe];exact Iff.rfl)
 rw[←hSe] at hS hc hl ⊢
 obtain⟨E,hE⟩:∃ E,E=rowErr nodes r target:=⟨_,rfl⟩
 rw[←hE] at HE ⊢
 have HS:=zN hS
 clear hSe hE hS
 go_enter Tryz.func57,Tryz.ntmps57
 go_wp2
 refine absW (F:=fun w'=>w'.cell? ⟨w.heap.size,0,none⟩=some (.slice q S.length cap)∧w'.cell? ⟨w.heap.size,2,none⟩=some (.int .i64 r.weight)∧Below w.heap.size w w') ⟨(by simp[zO,zJ,zQ]),(by simp[zO,zJ,zQ]),(by repeat (first|(with_reducible first|assumption|exact zBr _ _|refine zBs ?_ (by first|omega|simp<;>omega) _|refine zBa ?_ (by first|omega|simp<;>omega) _|apply zBd)|assumption))⟩ ?_
 rintro W1 ⟨c0,c2,hb1⟩
 have HS1:=zN (HS.out.below hb1)
 have HB1:=zN hb1
 have hs1:w.heap.size < W1.heap.size:=zM _ _ c0
 clear hb1 HS
 go_loopw [7] (fun i wr=>∃ k:Nat,1≤k∧(k≤S.length∨k=1)∧i=.int .i64 k∧Hid (∀ j (h:j+1 < S.length),j+1 < k→S[j].1 < S[j+1].1)∧Below W1.heap.size W1 wr) (fun i _=>S.length-(intOf i).toNat)
 case atStart=>exact⟨1,Nat.le_refl _,.inr rfl,rfl,zN (fun j h hj=>by omega),zBr _ _⟩
 case round=>
  obtain⟨k,hk1,hk,rfl,HK,hb⟩:=hrel
  have c0r:=zP hb c0
  by_cases hlt:k < S.length
  ·have hdk:decide ((k:Int) < (S.length:Int))=true:=zDt (by omega)
   obtain⟨b,o,rfl,hbl,hcell⟩:=HS1.out.get (by omega)
   have d1:=(hcell k hlt).1
   have d0:=(hcell (k-1) (by omega)).1
   have HN:Hid ((S[k-1]'(by omega)).1 < S[k].1→∀ j (h:j+1 < S.length),j+1 < k+1→S[j].1 < S[j+1].1):=zN (fun h j hj hjk=>by
    by_cases e:j+1=k
    ·subst e;exact h
    ·exact HK.out j hj (by omega))
   have HNO:Hid (¬ (S[k-1]'(by omega)).1 < S[k].1→¬ AscA S):=zN (fun h ha=>h (by
    have:=ha (k-1) (by omega)
    rwa[show (S[k-1+1]'(by omega))=S[k] by congr 1;omega] at this))
   obtain⟨x,hx⟩:∃ x,x=S[k].1:=⟨_,rfl⟩
   obtain⟨y,hy⟩:∃ y,y=(S[k-1]'(by omega)).1:=⟨_,rfl⟩
   rw[←hx] at d1 HN HNO
   rw[←hy] at d0 HN HNO
   replace d0:=zP hb d0
   replace d1:=zP hb d1
   have hk1':(k:Int)-1=((k-1:Nat):Int):=by omega
   obtain⟨kk,hkk⟩:∃ kk,kk=k-1:=⟨_,rfl⟩
   rw[←hkk] at d0 hk1'
   have hkk0:(0:Int)≤(kk:Int):=by omega
   have hkkI:(kk:Int) < (S.length:Int):=by omega
   have hk0:(0:Int)≤(k:Int):=by omega
   have hkI:(k:Int) < (S.length:Int):=by omega
   have HB:=zN hb
   clear hkk hx hy hcell hb
   by_cases hxy:y < x
   ·have hd:decide (x≤y)=false:=zDf (by omega)
    have HK2:=zN (HN.out hxy)
    clear HN HNO hxy
    go_wp2
    refine RX.region RX.fL (fun w'=>w'=_) (by kernel_rfl) (by kernel_rfl) rfl (fun OPS HO QR hQR=>?_)
    repeat (refine zeX (fun R hR=>?_);(first|refine zaX (by first|rfl|(rw[HO.out];rfl)) (by simp only[zA,zB,zC,zD];rfl) ?_|refine zbX (by first|rfl|(rw[HO.out];rfl)) rfl (by first|exact .inl rfl|exact .inr rfl) (by simp only[zE,zF,zG,zH];rfl) (by simp only[zA,zB,zC,zD];rfl) ?_|(refine zdX (by first|rfl|(rw[HO.out];rfl)) rfl rfl rfl ?_;apply zEx;apply zEx;refine⟨fun w' hS K hK=>?_,?_,?_⟩;(focus (subst hS;go_wp2;exact hK _ _ (by simp only[zl,zG,zH];first|exact zf (by omega)|exact zg (by omega)|exact zh (by omega)|exact zi (by omega)|exact zj (by omega)|exact zk (by omega)|exact RX.bneB _|rfl) rfl));(focus (simp only[zA,zB,zC,zD];rfl))));refine hR _ _ ?_;clear hR R)
    refine RX.wpL_nil (hQR _ _ rfl ?_);clear hQR QR HO OPS
    go_wp2
    go_roundw
    case rel=>exact⟨k+1,by omega,.inl (by omega),by go_num,HK2,HB.out.drew⟩
    case measure=>simp[intOf];omega
   ·have hd:decide (x≤y)=true:=zDt (by omega)
    have HF:=zN (HE.out.1 (HNO.out hxy))
    clear HN HNO hxy
    go_wp2
    refine RX.region RX.fL (fun w'=>w'=_) (by kernel_rfl) (by kernel_rfl) rfl (fun OPS HO QR hQR=>?_)
    repeat (refine zeX (fun R hR=>?_);(first|refine zaX (by first|rfl|(rw[HO.out];rfl)) (by simp only[zA,zB,zC,zD];rfl) ?_|refine zbX (by first|rfl|(rw[HO.out];rfl)) rfl (by first|exact .inl rfl|exact .inr rfl) (by simp only[zE,zF,zG,zH];rfl) (by simp only[zA,zB,zC,zD];rfl) ?_|(refine zdX (by first|rfl|(rw[HO.out];rfl)) rfl rfl rfl ?_;apply zEx;apply zEx;refine⟨fun w' hS K hK=>?_,?_,?_⟩;(focus (subst hS;go_wp2;exact hK _ _ (by simp only[zl,zG,zH];first|exact zf (by omega)|exact zg (by omega)|exact zh (by omega)|exact zi (by omega)|exact zj (by omega)|exact zk (by omega)|exact RX.bneB _|rfl) rfl));(focus (simp only[zA,zB,zC,zD];rfl))));refine hR _ _ ?_;clear hR R)
    refine RX.wpL_nil (hQR _ _ rfl ?_);clear hQR QR HO OPS
    go_wp2
    go_ret
    exact⟨by rw[HF.out]<;>rfl,HB1.out.trans (HB.out.drew.mono HB1.out.size)⟩
  ·have hdk:decide ((k:Int) < (S.length:Int))=false:=zDf (by omega)
   have HASC:Hid (AscA S):=zN (fun j hj=>HK.out j hj (by omega))
   have HB:=zN hb
   clear hb
   go_wp2
   go_loopw [8,35] (fun s i wx=>∃ t:Nat,t≤S.length∧i=.int .i64 t∧s=.int .i64 (sumI (S.take t))∧Hid (∀ j (h:j < S.length),j < t→ShOk nodes S[j])∧Below W1.heap.size W1 wx) (fun _ i _=>S.length-(intOf i).toNat)
   case atStart=>exact⟨0,Nat.zero_le _,rfl,rfl,zN (fun j h hj=>by omega),HB.out⟩
   case round=>
    clear c0r
    obtain⟨t,ht,rfl,rfl,HT,hb⟩:=hrel
    have c0r:=zP hb c0
    have c2r:=zP hb c2
    by_cases hlt2:t < S.length
    ·have hdt:decide ((t:Int) < (S.length:Int))=true:=zDt (by omega)
     obtain⟨b,o,rfl,hbl,hcell⟩:=HS1.out.get (by omega)
     obtain⟨d0,d1⟩:=hcell t hlt2
     replace d0:=zP hb d0
     replace d1:=zP hb d1
     have hbd:=sumI_bd (nodes:=nodes) t ht HT.out
     have HSU:=zN (sumI_take hlt2)
     have HN:Hid (ShOk nodes S[t]→∀ j (h:j < S.length),j < t+1→ShOk nodes S[j]):=zN (fun h j hj hjt=>by
      by_cases e:j=t
      ·subst e;exact h
      ·exact HT.out j hj (by omega))
     have HNO:Hid (¬ ShOk nodes S[t]→E=1):=zN (fun h=>HE.out.2.1 HASC.out (fun ho=>h ((HOK.out.1 ho).1 _ (List.getElem_mem _))))
     have HLE:Hid (ShOk nodes S[t]→(t:Int) < nodes):=zN (fun h=>asc_le HASC.out hlt2 (fun j hj hjt=>HN.out h j hj (by omega)))
     obtain⟨x,hx⟩:∃ x,x=S[t]:=⟨_,rfl⟩
     rw[←hx] at d0 d1 HSU HN HNO HLE
     obtain⟨x0,x1⟩:=x
     dsimp only at d0 d1 HSU
     obtain⟨sm,hsm⟩:∃ sm,sm=sumI (S.take t):=⟨_,rfl⟩
     rw[←hsm] at hbd HSU
     rw[←hsm]
     have ht0:(0:Int)≤(t:Int):=by omega
     have htI:(t:Int) < (S.length:Int):=by omega
     have hbn:b < wr.heap.size:=by have:=hb.size;omega
     have hbne:¬ (b=wr.heap.size):=by omega
     have HB2:=zN (hb.alloc hb.size (.cells #[.int .i64 x0,.int .i64 x1] 90))
     have HBw:Hid (Below w.heap.size w (wr.alloc (.cells #[.int .i64 x0,.int .i64 x1] 90))):=zN (HB1.out.trans (HB2.out.mono HB1.out.size))
     clear hx hsm hcell hb
     by_cases h0:0≤x0∧x0≤nodes-1
     ·by_cases h1:1≤x1∧x1≤840
      ·have hok:ShOk nodes (x0,x1):=⟨by show 0≤x0∧x0 < nodes;omega,h1⟩
       have htn:=HLE.out hok
       have HN2:=zN (HN.out hok)
       clear HN HNO HLE hok
       go_wp2_with fail
       refine (cwithin_yes x0 0 (nodes-1) _ h0).mono ?_
       rintro e w3 ⟨rfl,rfl⟩
       go_wp2_with fail
       refine (cwithin_yes x1 1 840 _ h1).mono ?_
       rintro e w3 ⟨rfl,rfl⟩
       go_wp2
       go_roundw
       case rel=>exact⟨t+1,by omega,by go_num,by rw[HSU.out],HN2,HB2.out⟩
       case measure=>simp[intOf];omega
      ·have HF:=zN (HNO.out (fun h=>h1 h.2))
       clear HN HNO HLE
       go_wp2_with fail
       refine (cwithin_yes x0 0 (nodes-1) _ h0).mono ?_
       rintro e w3 ⟨rfl,rfl⟩
       go_wp2_with fail
       refine (cwithin_no x1 1 840 _ h1).mono ?_
       rintro e w3 ⟨rfl,rfl⟩
       go_wp2
       go_ret
       exact⟨by rw[HF.out]<;>rfl,HBw.out⟩
     ·have HF:=zN (HNO.out (fun h=>h0 (by have h9:0≤x0∧x0 < nodes:=h.1;omega)))
      clear HN HNO HLE
      go_wp2_with fail
      refine (cwithin_no x0 0 (nodes-1) _ h0).mono ?_
      rintro e w3 ⟨rfl,rfl⟩
      go_wp2
      go_ret
      exact⟨by rw[HF.out]<;>rfl,HBw.out⟩
    ·have hdt:decide ((t:Int) < (S.length:Int))=false:=zDf (by omega)
     have htS:t=S.length:=by omega
     have es:sumI (S.take t)=sumI S:=by rw[htS,List.take_length]
     have HALL:Hid (∀ c∈S,ShOk nodes c):=zN (fun c hc=>by
      obtain⟨j,hj,rfl⟩:=List.getElem_of_mem hc
      exact HT.out j hj (by omega))
     have HBw:Hid (Below w.heap.size w wr):=zN (HB1.out.trans (hb.mono HB1.out.size))
     rw[es]
     have HSS:Hid ((sumI S=840→(1≤r.weight∧r.weight≤100)→(-4294967296≤target∧target≤4294967296)→E=0)∧(¬ (sumI S=840∧(1≤r.weight∧r.weight≤100)∧-4294967296≤target∧target≤4294967296)→E=1)):=zN ⟨fun a b c=>HE.out.2.2 HASC.out (HOK.out.2 ⟨HALL.out,a,b,c⟩),fun h=>HE.out.2.1 HASC.out (fun ho=>h (HOK.out.1 ho).2)⟩
     obtain⟨sm,hsm⟩:∃ sm,sm=sumI S:=⟨_,rfl⟩
     rw[←hsm] at HSS
     rw[←hsm]
     clear hsm es htS hb HE HOK
     by_cases h1:sm=840
     ·have hb1:(sm != 840)=false:=by rw[bne_eq_false_iff_eq];exact h1
      by_cases h2:1≤r.weight∧r.weight≤100
      ·by_cases h3:-4294967296≤target∧target≤4294967296
       ·have HF:=zN (HSS.out.1 h1 h2 h3)
        clear HSS h1
        go_wp2_with fail
        refine (cwithin_yes r.weight 1 100 _ h2).mono ?_
        rintro e w3 ⟨rfl,rfl⟩
        go_wp2_with fail
        refine (cwithin_yes target (-4294967296) 4294967296 _ h3).mono ?_
        rintro e w3 ⟨rfl,rfl⟩
        go_wp2
        go_ret
        exact⟨by rw[HF.out]<;>rfl,HBw.out⟩
       ·have HF:=zN (HSS.out.2 (fun h=>h3 h.2.2))
        clear HSS h1
        go_wp2_with fail
        refine (cwithin_yes r.weight 1 100 _ h2).mono ?_
        rintro e w3 ⟨rfl,rfl⟩
        go_wp2_with fail
        refine (cwithin_no target (-4294967296) 4294967296 _ h3).mono ?_
        rintro e w3 ⟨rfl,rfl⟩
        go_wp2
        go_ret
        exact⟨by rw[HF.out]<;>rfl,HBw.out⟩
      ·have HF:=zN (HSS.out.2 (fun h=>h2 h.2.1))
       clear HSS h1
       go_wp2_with fail
       refine (cwithin_no r.weight 1 100 _ h2).mono ?_
       rintro e w3 ⟨rfl,rfl⟩
       go_wp2
       go_ret
       exact⟨by rw[HF.out]<;>rfl,HBw.out⟩
     ·have hb1:(sm != 840)=true:=by rw[bne_iff_ne];exact h1
      have HF:=zN (HSS.out.2 (fun h=>h1 h.1))
      clear HSS
      go_wp2
      go_ret
      exact⟨by rw[HF.out]<;>rfl,HBw.out⟩
theorem RwIn.get {w:World} {p:Option Addr} {R:List Rw} (h:RwIn w p R) (h0:0 < R.length):∃ b o,p=some ⟨b,o,none⟩∧b < w.heap.size∧∀ k (h:k < R.length),RwAt w b (o+k*4) R[k]:=by
 obtain⟨b,o,h1,h2⟩:=h
 obtain⟨q,cap,h3,_⟩:=h2 0 h0
 exact⟨b,o,h1 h0,zM _ _ h3,h2⟩
def I64Max:Nat:=9223372036854775807
def SyLen (S:Sy):Prop:=S.rows.length≤9223372036854775807∧S.targets.length≤9223372036854775807∧∀ r∈S.rows,r.sh.length≤9223372036854775807
theorem prOk_nodes {f s a:Int} (h:PrOk f s a):countI f=10*f*f+2∧1≤10*f*f+2∧10*f*f+2≤1000:=by
 unfold PrOk at h
 have h1:0≤10*f*f:=Int.mul_nonneg (by omega) (by omega)
 have h2:=Int.mul_le_mul (show 10*f≤80 by omega) h.2.1 (by omega) (by omega)
 refine⟨?_,by omega,by omega⟩
 unfold countI;rw[if_pos ⟨h.1,h.2.1⟩]
theorem ccheck_any (S:Sy) (v:Value) (w:World) (hS:SysIn w v S) (hl:SyLen S) :
  Calls Tryz.prog 12 #[v] w fun e w'=>e=.returned (.int .i64 (sysErr S))∧Below w.heap.size w w':=by
 obtain⟨p1,d1,p2,d2,rfl,hd1,hd2,hR,hT⟩:=hS
 obtain⟨hl1,hl2,hl3⟩:=hl
 obtain⟨E,hE⟩:∃ E,E=sysErr S:=⟨_,rfl⟩
 have HE:Hid ((¬ PrOk S.f S.s S.a→E=1)∧(PrOk S.f S.s S.a→200 < S.rows.length→E=2)∧(PrOk S.f S.s S.a→¬ 200 < S.rows.length→S.targets.length≠S.rows.length→E=1)∧(PrOk S.f S.s S.a→¬ 200 < S.rows.length→S.targets.length=S.rows.length→E=rowsErr (10*S.f*S.f+2) S.rows S.targets)):=
  zN (by rw[hE];exact⟨sysErr_pr,sysErr_many,sysErr_len,sysErr_rows⟩)
 rw[←hE]
 clear hE
 obtain⟨f,s,a,R,T⟩:=S
 dsimp only at *
 have HR:=zN hR
 have HT:=zN hT
 have HL3:=zN hl3
 clear hR hT hl3
 go_enter Tryz.func12,Tryz.ntmps12
 go_wp2_with fail
 refine (pcheck_any f s a _).mono ?_
 rintro e w1 ⟨rfl,hb1⟩
 have hB:Below w.heap.size w w1:=Below.trans (by repeat (first|(with_reducible first|assumption|exact zBr _ _|refine zBs ?_ (by first|omega|simp<;>omega) _|refine zBa ?_ (by first|omega|simp<;>omega) _|apply zBd)|assumption)) (hb1.mono (by simp))
 have c0:w1.cell? ⟨w.heap.size,0,none⟩=some (.int .i64 f):=zP hb1 (by simp[zO,zJ,zQ])
 have c3:w1.cell? ⟨w.heap.size,3,none⟩=some (.slice p1 R.length d1):=zP hb1 (by simp[zO,zJ,zQ])
 have c4:w1.cell? ⟨w.heap.size,4,none⟩=some (.slice p2 T.length d2):=zP hb1 (by simp[zO,zJ,zQ])
 have HB:=zN hB
 clear hb1 hB
 by_cases hP:PrOk f s a
 ·have hE0:prErr f s a=0:=if_pos hP
  rw[hE0]
  by_cases hm:200 < R.length
  ·have hdm:decide ((200:Int) < (R.length:Int))=true:=zDt (by omega)
   have HF:=zN (HE.out.2.1 hP hm)
   clear hE0
   go_wp2
   go_ret
   exact⟨by rw[HF.out]<;>rfl,HB.out⟩
  ·have hdm:decide ((200:Int) < (R.length:Int))=false:=zDf (by omega)
   by_cases hle:T.length=R.length
   ·have hbe:((T.length:Int) != (R.length:Int))=false:=by simp[hle]
    obtain⟨hcn,hn1,hn2⟩:=prOk_nodes hP
    have HF:=zN (HE.out.2.2.2 hP hm hle)
    obtain⟨N,hN⟩:∃ N,N=10*f*f+2:=⟨_,rfl⟩
    rw[←hN] at hcn hn1 hn2 HF
    clear hE0 hN HE
    go_wp2_with fail
    refine (count_any f _).mono ?_
    rintro e w2 ⟨rfl,rfl⟩
    rw[hcn]
    clear hcn
    go_wp2
    have m4:=c4
    have hsz:w.heap.size < w1.heap.size:=zM _ _ m4
    have HB2:=HB
    clear c0 c3 c4
    go_loopw [34] (fun i wr=>∃ k:Nat,k≤R.length∧i=.int .i64 k∧Hid (∀ i (h1:i < R.length) (h2:i < T.length),i < k→rowErr N R[i] T[i]=0)∧Below w1.heap.size w1 wr) (fun i _=>R.length-(intOf i).toNat)
    case atStart=>exact⟨0,Nat.zero_le _,rfl,zN (fun i h1 h2 hk=>by omega),zBr _ _⟩
    case round=>
     obtain⟨k,hk,rfl,HK,hb⟩:=hrel
     have m4r:=zP hb m4
     by_cases hlt:k < R.length
     ·have hdk:decide ((k:Int) < (R.length:Int))=true:=zDt (by omega)
      have hltT:k < T.length:=by omega
      have hbw:Below w.heap.size w wr:=HB2.out.trans (hb.mono HB2.out.size)
      obtain⟨bR,oR,rfl,hbR,hcR⟩:=(HR.out.below hbw).get (by omega)
      obtain⟨bT,oT,rfl,hbT,hcT⟩:=(HT.out.below hbw).cell (by omega)
      obtain⟨q,cap,g0,gcap,gsh,g1,g2,g3⟩:=hcR k hlt
      have tk:=hcT k hltT
      have hrl:=HL3.out R[k] (List.getElem_mem _)
      have HROW:Hid ((rowErr N R[k] T[k]=0→∀ i (h1:i < R.length) (h2:i < T.length),i < k+1→rowErr N R[i] T[i]=0)∧(rowErr N R[k] T[k]≠0→rowsErr N R T=rowErr N R[k] T[k])):=zN ⟨fun h i h1 h2 hi=>by
       by_cases e:i=k
       ·subst e;exact h
       ·exact HK.out i h1 h2 (by omega),fun h=>rowsErr_first hlt hltT HK.out h⟩
      obtain⟨r,hr⟩:∃ r,r=R[k]:=⟨_,rfl⟩
      obtain⟨t,ht⟩:∃ t,t=T[k]:=⟨_,rfl⟩
      rw[←hr] at g0 gcap gsh g1 g2 g3 hrl HROW
      rw[←ht] at tk HROW
      obtain⟨x,hx⟩:∃ x,x=rowErr N r t:=⟨_,rfl⟩
      rw[←hx] at HROW
      have HX:=zN hx
      have HG:=zN gsh
      have hkL:(k:Int) < (T.length:Int):=by omega
      have hwr:w.heap.size≠wr.heap.size:=by have:=hb.size;omega
      have hTr:bT≠wr.heap.size:=by omega
      have hk0:(0:Int)≤(k:Int):=by omega
      have HBr:=zN hb
      have HBw:=zN hbw
      clear hr ht hx gsh hcR hcT HK hb hbw
      go_wp2
      refine absW (F:=fun w'=>w'.cell? ⟨wr.heap.size,0,none⟩=some (.slice q r.sh.length cap)∧w'.cell? ⟨wr.heap.size,1,none⟩=some (.int .i64 r.value)∧w'.cell? ⟨wr.heap.size,2,none⟩=some (.int .i64 r.weight)∧w'.cell? ⟨wr.heap.size,3,none⟩=some (.int .i64 r.report)∧w'.cell? ⟨w.heap.size,4,none⟩=some (.slice (some ⟨bT,oT,none⟩) T.length d2)∧w'.cell? ⟨bT,oT+k,none⟩=some (.int .i64 t)∧Below wr.heap.size wr w') ⟨(by simp[zO,zJ,zQ]),(by simp[zO,zJ,zQ]),(by simp[zO,zJ,zQ]),(by simp[zO,zJ,zQ]),zP (show Below wr.heap.size wr _ from (by repeat (first|(with_reducible first|assumption|exact zBr _ _|refine zBs ?_ (by first|omega|simp<;>omega) _|refine zBa ?_ (by first|omega|simp<;>omega) _|apply zBd)|assumption))) m4r,zP (show Below wr.heap.size wr _ from (by repeat (first|(with_reducible first|assumption|exact zBr _ _|refine zBs ?_ (by first|omega|simp<;>omega) _|refine zBa ?_ (by first|omega|simp<;>omega) _|apply zBd)|assumption))) tk,(by repeat (first|(with_reducible first|assumption|exact zBr _ _|refine zBs ?_ (by first|omega|simp<;>omega) _|refine zBa ?_ (by first|omega|simp<;>omega) _|apply zBd)|assumption))⟩ ?_
      rintro W5 ⟨a0,a1,a2,a3,a4,a5,hb5⟩
      have HB5:=zN hb5
      clear hb5 g0 g1 g2 g3 tk m4r
      refine RX.region RX.fN (fun w'=>w'.cell? ⟨wr.heap.size,0,none⟩=some (.slice q r.sh.length cap)∧w'.cell? ⟨wr.heap.size,1,none⟩=some (.int .i64 r.value)∧w'.cell? ⟨wr.heap.size,2,none⟩=some (.int .i64 r.weight)∧w'.cell? ⟨wr.heap.size,3,none⟩=some (.int .i64 r.report)∧w'.cell? ⟨w.heap.size,4,none⟩=some (.slice (some ⟨bT,oT,none⟩) T.length d2)∧w'.cell? ⟨bT,oT+k,none⟩=some (.int .i64 t)) (by kernel_rfl) (by kernel_rfl) (⟨a0,a1,a2,a3,a4,a5⟩) (fun OPS HO QR hQR=>?_)
      repeat (refine zeX (fun R hR=>?_);(first|refine zaX (by first|rfl|(rw[HO.out];rfl)) (by simp only[zA,zB,zC,zD];rfl) ?_|refine zbX (by first|rfl|(rw[HO.out];rfl)) rfl (by first|exact .inl rfl|exact .inr rfl) (by simp only[zE,zF,zG,zH];rfl) (by simp only[zA,zB,zC,zD];rfl) ?_|refine zcX (by first|rfl|(rw[HO.out];rfl)) rfl rfl (by simp only[zE,zF,zG,zH];rfl) (by simp only[zA,zB,zC,zD];rfl) ?_|(refine zdX (by first|rfl|(rw[HO.out];rfl)) rfl rfl rfl ?_;apply zEx;apply zEx;refine⟨fun w' hS K hK=>?_,?_,?_⟩;(focus (obtain⟨hS1,hS2,hS3,hS4,hS5,hS6⟩:=hS;go_wp2;exact hK _ _ (by simp only[zl,zG,zH];first|exact zf (by omega)|exact zg (by omega)|exact zh (by omega)|exact zi (by omega)|exact zj (by omega)|exact zk (by omega)|exact RX.bneB _|rfl) rfl));(focus (simp only[zA,zB,zC,zD];rfl))));refine hR _ _ ?_;clear hR R)
      refine zeX (fun R hR=>?_)
      refine zgX (by first|rfl|(rw[HO.out];rfl)) rfl (fun K hK=>?_)
      go_wp2_with fail
      refine (crow_any r q cap t N _ ?_ gcap hrl ⟨hn1,hn2⟩).mono ?_
      ·exact (HG.out.below HB5.out).below (by repeat (first|(with_reducible first|assumption|exact zBr _ _|refine zBs ?_ (by first|omega|simp<;>omega) _|refine zBa ?_ (by first|omega|simp<;>omega) _|apply zBd)|assumption))
      rintro e w6 ⟨rfl,hb6⟩
      replace hb6:Below W5.heap.size W5 w6:=⟨hb6.os,hb6.tape,hb6.output,hb6.size,hb6.block⟩
      have hb7:Below wr.heap.size wr w6:=HB5.out.trans (hb6.mono HB5.out.size)
      have z0:=zP hb6 a0
      have z1:=zP hb6 a1
      have z2:=zP hb6 a2
      have z3:=zP hb6 a3
      have z4:=zP hb6 a4
      have z5:=zP hb6 a5
      have HB7:=zN hb7
      rw[←HX.out]
      clear hb6 hb7 a0 a1 a2 a3 a4 a5
      refine hK _ _ ⟨⟨z0,z1,z2,z3,z4,z5⟩,hR _ _ ?_⟩;clear hK K hR R
      repeat (refine zeX (fun R hR=>?_);(first|refine zaX (by first|rfl|(rw[HO.out];rfl)) (by simp only[zA,zB,zC,zD];rfl) ?_|refine zbX (by first|rfl|(rw[HO.out];rfl)) rfl (by first|exact .inl rfl|exact .inr rfl) (by simp only[zE,zF,zG,zH];rfl) (by simp only[zA,zB,zC,zD];rfl) ?_|refine zcX (by first|rfl|(rw[HO.out];rfl)) rfl rfl (by simp only[zE,zF,zG,zH];rfl) (by simp only[zA,zB,zC,zD];rfl) ?_|(refine zdX (by first|rfl|(rw[HO.out];rfl)) rfl rfl rfl ?_;apply zEx;apply zEx;refine⟨fun w' hS K hK=>?_,?_,?_⟩;(focus (obtain⟨hS1,hS2,hS3,hS4,hS5,hS6⟩:=hS;go_wp2;exact hK _ _ (by simp only[zl,zG,zH];first|exact zf (by omega)|exact zg (by omega)|exact zh (by omega)|exact zi (by omega)|exact zj (by omega)|exact zk (by omega)|exact RX.bneB _|rfl) rfl));(focus (simp only[zA,zB,zC,zD];rfl))));refine hR _ _ ?_;clear hR R)
      refine RX.wpL_nil (hQR _ _ (⟨z0,z1,z2,z3,z4,z5⟩) ?_);clear hQR QR HO OPS
      clear z0 z1 z2 z3 z4 z5
      by_cases hx0:x=0
      ·have HK2:=zN (HROW.out.1 hx0)
       subst hx0
       go_wp2
       go_roundw
       case rel=>exact⟨k+1,by omega,by go_num,HK2,HBr.out.trans (HB7.out.mono HBr.out.size)⟩
       case measure=>simp[intOf];omega
      ·have hbx:(x != 0)=true:=by rw[bne_iff_ne];exact hx0
       have HF2:Hid (E=x):=zN (by rw[HF.out];exact HROW.out.2 hx0)
       go_wp2
       go_ret
       exact⟨by rw[HF2.out]<;>rfl,HBw.out.trans (HB7.out.mono HBw.out.size)⟩
     ·have hdk:decide ((k:Int) < (R.length:Int))=false:=zDf (by omega)
      have HF2:Hid (E=0):=zN (by rw[HF.out];exact rowsErr_all (fun i h1 h2=>HK.out i h1 h2 (by omega)))
      have HBw:=zN (HB2.out.trans (hb.mono HB2.out.size))
      go_wp2
      go_ret
      exact⟨by rw[HF2.out]<;>rfl,HBw.out⟩
   ·have hbe:((T.length:Int) != (R.length:Int))=true:=by rw[bne_iff_ne];omega
    have HF:=zN (HE.out.2.2.1 hP hm hle)
    clear hE0
    go_wp2
    go_ret
    exact⟨by rw[HF.out]<;>rfl,HB.out⟩
 ·have hE0:prErr f s a=1:=if_neg hP
  have HF:=zN (HE.out.1 hP)
  rw[hE0]
  clear hE0
  go_wp2
  go_ret
  exact⟨by rw[HF.out]<;>rfl,HB.out⟩
def valT (x:List Int) (c:Int × Int):Int:=if 0≤c.1∧c.1 < x.length then c.2*x.getD c.1.toNat 0 else 0
def valL (S:List (Int × Int)) (x:List Int):Int:=(S.map (valT x)).sum
def ShW (S:List (Int × Int)):Prop:=(∀ c∈S,0≤c.2)∧sumI S≤840
theorem valL_take {S:List (Int × Int)} {x:List Int} {i:Nat} (hi:i < S.length):valL (S.take (i+1)) x=valL (S.take i) x+valT x S[i]:=by
 unfold valL
 rw[List.take_succ_eq_append_getElem hi,List.map_append,List.sum_append];simp
theorem sumI_le {S:List (Int × Int)} (h:∀ c∈S,0≤c.2):0≤sumI S∧∀ c∈S,c.2≤sumI S:=by
 induction S with
 |nil=>simp[sumI]
 |cons c S ih=>
  have h0:=h c (by simp)
  obtain⟨i1,i2⟩:=ih (fun c hc=>h c (by simp[hc]))
  have e:sumI (c :: S)=c.2+sumI S:=by simp[sumI]
  rw[e]
  refine⟨by omega,fun d hd=>?_⟩
  rcases List.mem_cons.1 hd with rfl|hd
  ·omega
  ·have:=i2 d hd;omega
theorem sumI_split (S:List (Int × Int)) (k:Nat):sumI (S.take k)+sumI (S.drop k)=sumI S:=by
 have:sumI (S.take k ++ S.drop k)=sumI (S.take k)+sumI (S.drop k):=by unfold sumI;rw[List.map_append,List.sum_append]
 rw[List.take_append_drop] at this;omega
theorem ShW.each {S:List (Int × Int)} (h:ShW S) {c:Int × Int} (hc:c∈S):0≤c.2∧c.2≤840:=by
 have:=(sumI_le h.1).2 c hc
 have:=h.1 c hc;have:=h.2;omega
theorem ShW.take {S:List (Int × Int)} (h:ShW S) (k:Nat):0≤sumI (S.take k)∧sumI (S.take k)≤840:=by
 have h1:=(sumI_le (S:=S.take k) (fun c hc=>h.1 c (List.mem_of_mem_take hc))).1
 have h2:=(sumI_le (S:=S.drop k) (fun c hc=>h.1 c (List.mem_of_mem_drop hc))).1
 have:=sumI_split S k;have:=h.2;omega
theorem mulw_bd {w d B:Int} (h1:0≤w) (h3:-B≤d) (h4:d≤B):-(w*B)≤w*d∧w*d≤w*B:=by
 have a:=Int.mul_le_mul_of_nonneg_left h4 h1
 have c:=Int.mul_le_mul_of_nonneg_left (show -d≤B by omega) h1
 have e:w * -d=-(w*d):=Int.mul_neg w d
 omega
theorem valT_bd {B:Int} {x:List Int} (hx:Bd B x) (hB:0≤B) {c:Int × Int} (hc:0≤c.2):-(c.2*B)≤valT x c∧valT x c≤c.2*B:=by
 have h0:=Int.mul_nonneg hc hB
 unfold valT
 split
 ·have:=hx.get hB c.1.toNat
  exact mulw_bd hc this.1 this.2
 ·omega
theorem valL_bd {B:Int} {x:List Int} (hx:Bd B x) (hB:0≤B):∀ {S:List (Int × Int)},(∀ c∈S,0≤c.2)→-(sumI S*B)≤valL S x∧valL S x≤sumI S*B
 |[],_=>by simp[valL,sumI]
 |c :: S,h=>by
  have i:=valL_bd hx hB (S:=S) (fun c hc=>h c (by simp[hc]))
  have j:=valT_bd hx hB (h c (by simp))
  have e:sumI (c :: S)=c.2+sumI S:=by simp[sumI]
  have e2:valL (c :: S) x=valT x c+valL S x:=by simp[valL]
  rw[e,e2,Int.add_mul];omega
theorem ShW.val {S:List (Int × Int)} (h:ShW S) {B:Int} {x:List Int} (hx:Bd B x) (hB:0≤B) (k:Nat):-(840*B)≤valL (S.take k) x∧valL (S.take k) x≤840*B:=by
 have h1:=valL_bd hx hB (S:=S.take k) (fun c hc=>h.1 c (List.mem_of_mem_take hc))
 have h2:=Int.mul_le_mul_of_nonneg_right (h.take k).2 hB
 omega
theorem ShW.val_all {S:List (Int × Int)} (h:ShW S) {B:Int} {x:List Int} (hx:Bd B x) (hB:0≤B):-(840*B)≤valL S x∧valL S x≤840*B:=by
 have:=h.val hx hB S.length
 rwa[List.take_length] at this
theorem RowOk.shw {nodes target:Int} {r:Rw} (h:RowOk nodes r target):ShW r.sh:=⟨fun c hc=>by have h1:=(h.1 c hc).2;omega,by have h1:=h.2.1;omega⟩
def rwv (r:Rw) (q:Option Addr) (cap:Nat):Value:=.agg #[.slice q r.sh.length cap,.int .i64 r.value,.int .i64 r.weight,.int .i64 r.report]
theorem i64_get {x:List Int} {i:Nat} (hi:i < x.length):x.getD i 0=x[i]:=by simp[List.getD,List.getElem?_eq_getElem hi]
theorem cvalue_any (r:Rw) (q:Option Addr) (cap:Nat) (x:List Int) (p:Option Addr) (xc:Nat) (w:World) (hS:ShIn w q r.sh) (hc:r.sh.length≤cap) (hl:r.sh.length≤9223372036854775807) (hw:ShW r.sh) (hx:VecAt w p x) (hb:Bd 1099511627776 x) (hxl:x.length≤1000000000) :
  Calls Tryz.prog 66 #[rwv r q cap,.slice p x.length xc] w fun e w'=>e=.returned (.int .i64 (valL r.sh x))∧Below w.heap.size w w':=by
 have hrw:Hid (rwv r q cap=.agg #[.slice q r.sh.length cap,.int .i64 r.value,.int .i64 r.weight,.int .i64 r.report]):=zN rfl
 rw[hrw.out]
 obtain⟨S,hSe⟩:∃ S,S=r.sh:=⟨_,rfl⟩
 rw[←hSe] at hS hc hl hw ⊢
 have HS:=zN hS
 have HX:=zN hx
 have HB:=zN hb
 have HW:=zN hw
 clear hSe hS hx hb hw hrw
 go_enter Tryz.func66,Tryz.ntmps66
 go_wp2
 refine absW (F:=fun w'=>w'.cell? ⟨w.heap.size,0,none⟩=some (.slice q S.length cap)∧Below w.heap.size w w') ⟨(by simp[zO,zJ,zQ]),(by repeat (first|(with_reducible first|assumption|exact zBr _ _|refine zBs ?_ (by first|omega|simp<;>omega) _|refine zBa ?_ (by first|omega|simp<;>omega) _|apply zBd)|assumption))⟩ ?_
 rintro W1 ⟨c0,hb1⟩
 have HS1:=zN (HS.out.below hb1)
 have HX1:=zN (HX.out.below hb1)
 have HB1:=zN hb1
 have hs1:w.heap.size < W1.heap.size:=zM _ _ c0
 clear hb1 HS HX
 go_loopw [5,11] (fun s i wr=>∃ k:Nat,k≤S.length∧i=.int .i64 k∧s=.int .i64 (valL (S.take k) x)∧Below W1.heap.size W1 wr) (fun _ i _=>S.length-(intOf i).toNat)
 case atStart=>exact⟨0,Nat.zero_le _,rfl,rfl,zBr _ _⟩
 case round=>
  obtain⟨k,hk,rfl,rfl,hb⟩:=hrel
  by_cases hlt:k < S.length
  ·have hdk:decide ((k:Int) < (S.length:Int))=true:=zDt (by omega)
   obtain⟨b,o,rfl,hbl,hcell⟩:=HS1.out.get (by omega)
   obtain⟨d0,d1⟩:=hcell k hlt
   replace d0:=zP hb d0
   replace d1:=zP hb d1
   have hv:=HW.out.val HB.out (by omega) k
   have hv2:=HW.out.val HB.out (by omega) (k+1)
   have HSU:Hid (valL (S.take (k+1)) x=valL (S.take k) x+valT x S[k]):=zN (valL_take hlt)
   rw[HSU.out] at hv2
   have hcw:=HW.out.each (List.getElem_mem hlt)
   have htb:=valT_bd HB.out (by omega) hcw.1
   have hk0:(0:Int)≤(k:Int):=by omega
   have hkI:(k:Int) < (S.length:Int):=by omega
   have hbn:b < wr.heap.size:=by have:=hb.size;omega
   have hbne:¬ (b=wr.heap.size):=by omega
   obtain⟨c,hce⟩:∃ c,c=S[k]:=⟨_,rfl⟩
   rw[←hce] at d0 d1 HSU hv2 hcw htb
   obtain⟨sm,hsm⟩:∃ sm,sm=valL (S.take k) x:=⟨_,rfl⟩
   rw[←hsm] at hv hv2 HSU
   rw[←hsm]
   obtain⟨x0,x1⟩:=c
   dsimp only at d0 d1 hcw htb
   have HB2:=zN (hb.alloc hb.size (.cells #[.int .i64 x0,.int .i64 x1] 90))
   clear hce hsm hcell
   by_cases hin:0≤x0∧x0≤(x.length:Int)-1
   ·obtain⟨j,rfl⟩:∃ j:Nat,x0=(j:Int):=⟨x0.toNat,by omega⟩
    have hj:j < x.length:=by omega
    obtain⟨bx,ox,rfl,hbx,hcx⟩:=HX1.out.cell (by omega)
    have xj:=zP hb (hcx j hj)
    have hbxr:bx < wr.heap.size:=by have:=hb.size;omega
    have hbxne:¬ (bx=wr.heap.size):=by omega
    have HT:Hid (valT x ((j:Int),x1)=x1*x[j]):=zN (by
     unfold valT;rw[if_pos (show 0≤((j:Int),x1).1∧((j:Int),x1).1 < x.length from ⟨by show 0≤(j:Int);omega,by show (j:Int) < x.length;omega⟩)]
     show x1*x.getD (j:Int).toNat 0=x1*x[j]
     rw[Int.toNat_natCast,i64_get hj])
    rw[HT.out] at htb hv2 HSU
    obtain⟨y,hy⟩:∃ y,y=x[j]:=⟨_,rfl⟩
    rw[←hy] at htb hv2 HSU xj
    obtain⟨pr,hpr⟩:∃ pr,x1*y=pr:=⟨_,rfl⟩
    rw[hpr] at htb hv2 HSU
    have hj0:(0:Int)≤(j:Int):=by omega
    have hjI:(j:Int) < (x.length:Int):=by omega
    clear HT hy hcx
    go_wp2_with fail
    refine (cwithin_yes _ _ _ _ hin).mono ?_
    rintro e w3 ⟨rfl,rfl⟩
    go_wp2
    refine RX.region RX.fN (fun w'=>w'=_) (by kernel_rfl) (by kernel_rfl) rfl (fun OPS HO QR hQR=>?_)
    repeat (refine zeX (fun R hR=>?_);(first|refine zaX (by first|rfl|(rw[HO.out];rfl)) (by simp only[zA,zB,zC,zD];rfl) ?_|refine zbX (by first|rfl|(rw[HO.out];rfl)) rfl (by first|exact .inl rfl|exact .inr rfl) (by simp only[zE,zF,zG,zH];rfl) (by simp only[zA,zB,zC,zD];rfl) ?_|refine zcX (by first|rfl|(rw[HO.out];rfl)) rfl rfl (by simp only[zE,zF,zG,zH];rfl) (by simp only[zA,zB,zC,zD];rfl) ?_|(refine zdX (by first|rfl|(rw[HO.out];rfl)) rfl rfl rfl ?_;apply zEx;apply zEx;refine⟨fun w' hS K hK=>?_,?_,?_⟩;(focus (subst hS;go_wp2;exact hK _ _ (by simp only[zl,zG,zH];first|exact zf (by omega)|exact zg (by omega)|exact zh (by omega)|exact zi (by omega)|exact zj (by omega)|exact zk (by omega)|exact RX.bneB _|rfl) rfl));(focus (simp only[zA,zB,zC,zD];rfl))));refine hR _ _ ?_;clear hR R)
    refine RX.wpL_nil (hQR _ _ rfl ?_);clear hQR QR HO OPS
    go_wp2
    go_roundw
    case rel=>exact⟨k+1,by omega,by go_num,by rw[HSU.out],HB2.out.drew⟩
    case measure=>simp[intOf];omega
   ·have HT:Hid (valT x (x0,x1)=0):=zN (by
     unfold valT;rw[if_neg (fun h=>hin ⟨h.1,by have h2:x0 < (x.length:Int):=h.2;omega⟩)])
    rw[HT.out] at HSU
    clear HT htb hv2
    go_wp2_with fail
    refine (cwithin_no _ _ _ _ hin).mono ?_
    rintro e w3 ⟨rfl,rfl⟩
    go_wp2
    go_roundw
    case rel=>exact⟨k+1,by omega,by go_num,by rw[HSU.out];simp,HB2.out⟩
    case measure=>simp[intOf];omega
  ·have hdk:decide ((k:Int) < (S.length:Int))=false:=zDf (by omega)
   obtain rfl:k=S.length:=by omega
   rw[List.take_length]
   have HBw:=zN (HB1.out.trans (hb.mono HB1.out.size))
   clear hb
   go_wp2
   go_ret
   exact⟨rfl,HBw.out⟩
theorem rsum_any (r:Rw) (q:Option Addr) (cap:Nat) (x:List Int) (p:Option Addr) (xc:Nat) (w:World) (hS:ShIn w q r.sh) (hc:r.sh.length≤cap) (hl:r.sh.length≤9223372036854775807) (hw:ShW r.sh) (hx:VecAt w p x) (hb:Bd 1099511627776 x) (hxl:x.length≤1000000000) :
  Calls Tryz.prog 71 #[rwv r q cap,.slice p x.length xc] w fun e w'=>e=.returned (.int .i64 (valL r.sh x))∧Below w.heap.size w w':=by
 have hrw:Hid (rwv r q cap=.agg #[.slice q r.sh.length cap,.int .i64 r.value,.int .i64 r.weight,.int .i64 r.report]):=zN rfl
 rw[hrw.out]
 obtain⟨S,hSe⟩:∃ S,S=r.sh:=⟨_,rfl⟩
 rw[←hSe] at hS hc hl hw ⊢
 have HS:=zN hS
 have HX:=zN hx
 have HB:=zN hb
 have HW:=zN hw
 clear hSe hS hx hb hw hrw
 go_enter Tryz.func71,Tryz.ntmps71
 go_wp2
 refine absW (F:=fun w'=>w'.cell? ⟨w.heap.size,0,none⟩=some (.slice q S.length cap)∧Below w.heap.size w w') ⟨(by simp[zO,zJ,zQ]),(by repeat (first|(with_reducible first|assumption|exact zBr _ _|refine zBs ?_ (by first|omega|simp<;>omega) _|refine zBa ?_ (by first|omega|simp<;>omega) _|apply zBd)|assumption))⟩ ?_
 rintro W1 ⟨c0,hb1⟩
 have HS1:=zN (HS.out.below hb1)
 have HX1:=zN (HX.out.below hb1)
 have HB1:=zN hb1
 have hs1:w.heap.size < W1.heap.size:=zM _ _ c0
 clear hb1 HS HX
 go_loopw [5,6] (fun s i wr=>∃ k:Nat,k≤S.length∧i=.int .i64 k∧s=.int .i64 (valL (S.take k) x)∧Below W1.heap.size W1 wr) (fun _ i _=>S.length-(intOf i).toNat)
 case atStart=>exact⟨0,Nat.zero_le _,rfl,rfl,zBr _ _⟩
 case round=>
  obtain⟨k,hk,rfl,rfl,hb⟩:=hrel
  have c0r:=zP hb c0
  by_cases hlt:k < S.length
  ·have hdk:decide ((k:Int) < (S.length:Int))=true:=zDt (by omega)
   obtain⟨b,o,rfl,hbl,hcell⟩:=HS1.out.get (by omega)
   obtain⟨d0,d1⟩:=hcell k hlt
   replace d0:=zP hb d0
   replace d1:=zP hb d1
   have hv:=HW.out.val HB.out (by omega) k
   have hv2:=HW.out.val HB.out (by omega) (k+1)
   have HSU:Hid (valL (S.take (k+1)) x=valL (S.take k) x+valT x S[k]):=zN (valL_take hlt)
   rw[HSU.out] at hv2
   have hcw:=HW.out.each (List.getElem_mem hlt)
   have htb:=valT_bd HB.out (by omega) hcw.1
   have hk0:(0:Int)≤(k:Int):=by omega
   have hkI:(k:Int) < (S.length:Int):=by omega
   have hbn:b < wr.heap.size:=by have:=hb.size;omega
   have hbne:¬ (b=wr.heap.size):=by omega
   obtain⟨c,hce⟩:∃ c,c=S[k]:=⟨_,rfl⟩
   rw[←hce] at d0 d1 HSU hv2 hcw htb
   obtain⟨sm,hsm⟩:∃ sm,sm=valL (S.take k) x:=⟨_,rfl⟩
   rw[←hsm] at hv hv2 HSU
   rw[←hsm]
   obtain⟨x0,x1⟩:=c
   dsimp only at d0 d1 hcw htb
   have HB2:=zN hb
   clear hce hsm hcell
   by_cases hin:0≤x0∧x0≤(x.length:Int)-1
   ·obtain⟨j,rfl⟩:∃ j:Nat,x0=(j:Int):=⟨x0.toNat,by omega⟩
    have hj:j < x.length:=by omega
    obtain⟨bx,ox,rfl,hbx,hcx⟩:=HX1.out.cell (by omega)
    have xj:=zP hb (hcx j hj)
    have hbxr:bx < wr.heap.size:=by have:=hb.size;omega
    have hbxne:¬ (bx=wr.heap.size):=by omega
    have HT:Hid (valT x ((j:Int),x1)=x1*x[j]):=zN (by
     unfold valT;rw[if_pos (show 0≤((j:Int),x1).1∧((j:Int),x1).1 < x.length from ⟨by show 0≤(j:Int);omega,by show (j:Int) < x.length;omega⟩)]
     show x1*x.getD (j:Int).toNat 0=x1*x[j]
     rw[Int.toNat_natCast,i64_get hj])
    rw[HT.out] at htb hv2 HSU
    obtain⟨y,hy⟩:∃ y,y=x[j]:=⟨_,rfl⟩
    rw[←hy] at htb hv2 HSU xj
    obtain⟨pr,hpr⟩:∃ pr,x1*y=pr:=⟨_,rfl⟩
    rw[hpr] at htb hv2 HSU
    have hj0:(0:Int)≤(j:Int):=by omega
    have hjI:(j:Int) < (x.length:Int):=by omega
    clear HT hy hcx
    go_wp2
    refine RX.region RX.fN (fun w'=>w'=_) (by kernel_rfl) (by kernel_rfl) rfl (fun OPS HO QR hQR=>?_)
    repeat (refine zeX (fun R hR=>?_);(first|refine zaX (by first|rfl|(rw[HO.out];rfl)) (by simp only[zA,zB,zC,zD];rfl) ?_|refine zbX (by first|rfl|(rw[HO.out];rfl)) rfl (by first|exact .inl rfl|exact .inr rfl) (by simp only[zE,zF,zG,zH];rfl) (by simp only[zA,zB,zC,zD];rfl) ?_|refine zcX (by first|rfl|(rw[HO.out];rfl)) rfl rfl (by simp only[zE,zF,zG,zH];rfl) (by simp only[zA,zB,zC,zD];rfl) ?_|(refine zdX (by first|rfl|(rw[HO.out];rfl)) rfl rfl rfl ?_;apply zEx;apply zEx;refine⟨fun w' hS K hK=>?_,?_,?_⟩;(focus (subst hS;go_wp2;exact hK _ _ (by simp only[zl,zG,zH];first|exact zf (by omega)|exact zg (by omega)|exact zh (by omega)|exact zi (by omega)|exact zj (by omega)|exact zk (by omega)|exact RX.bneB _|rfl) rfl));(focus (simp only[zA,zB,zC,zD];rfl))));refine hR _ _ ?_;clear hR R)
    refine RX.wpL_nil (hQR _ _ rfl ?_);clear hQR QR HO OPS
    go_wp2
    go_roundw
    case rel=>exact⟨k+1,by omega,by go_num,by rw[HSU.out],HB2.out.drew⟩
    case measure=>simp[intOf];omega
   ·have HT:Hid (valT x (x0,x1)=0):=zN (by
     unfold valT;rw[if_neg (fun h=>hin ⟨h.1,by have h2:x0 < (x.length:Int):=h.2;omega⟩)])
    rw[HT.out] at HSU
    clear HT htb hv2
    by_cases h0:0≤x0
    ·have h1:(x.length:Int)≤x0:=by omega
     go_wp2
     go_roundw
     case rel=>exact⟨k+1,by omega,by go_num,by rw[HSU.out];simp,HB2.out⟩
     case measure=>simp[intOf];omega
    ·have h1:x0 < 0:=by omega
     go_wp2
     go_roundw
     case rel=>exact⟨k+1,by omega,by go_num,by rw[HSU.out];simp,HB2.out⟩
     case measure=>simp[intOf];omega
  ·have hdk:decide ((k:Int) < (S.length:Int))=false:=zDf (by omega)
   obtain rfl:k=S.length:=by omega
   rw[List.take_length]
   have HBw:=zN (HB1.out.trans (hb.mono HB1.out.size))
   clear hb
   go_wp2
   go_ret
   exact⟨rfl,HBw.out⟩
theorem rtarget_any (r:Rw) (q:Option Addr) (cap:Nat) (x:List Int) (p:Option Addr) (xc:Nat) (w:World) (hS:ShIn w q r.sh) (hc:r.sh.length≤cap) (hl:r.sh.length≤9223372036854775807) (hw:ShW r.sh) (hx:VecAt w p x) (hb:Bd 1099511627776 x) (hxl:x.length≤1000000000) (hv:-1000000000≤r.value∧r.value≤1000000000) :
  Calls Tryz.prog 22 #[.slice p x.length xc,rwv r q cap] w fun e w'=>e=.returned (.int .i64 (215040*r.value-valL r.sh x))∧Below w.heap.size w w':=by
 have hrw:Hid (rwv r q cap=.agg #[.slice q r.sh.length cap,.int .i64 r.value,.int .i64 r.weight,.int .i64 r.report]):=zN rfl
 rw[hrw.out]
 have hvb:=hw.val_all hb (by omega)
 obtain⟨V,hV⟩:∃ V,V=valL r.sh x:=⟨_,rfl⟩
 rw[←hV] at hvb ⊢
 have HV:=zN hV
 clear hV
 go_enter Tryz.func22,Tryz.ntmps22
 go_wp2
 refine absW (F:=fun w'=>w'.cell? ⟨w.heap.size,0,none⟩=some (.slice q r.sh.length cap)∧w'.cell? ⟨w.heap.size,1,none⟩=some (.int .i64 r.value)∧w'.cell? ⟨w.heap.size,2,none⟩=some (.int .i64 r.weight)∧w'.cell? ⟨w.heap.size,3,none⟩=some (.int .i64 r.report)∧Below w.heap.size w w') ⟨(by simp[zO,zJ,zQ]),(by simp[zO,zJ,zQ]),(by simp[zO,zJ,zQ]),(by simp[zO,zJ,zQ]),(by repeat (first|(with_reducible first|assumption|exact zBr _ _|refine zBs ?_ (by first|omega|simp<;>omega) _|refine zBa ?_ (by first|omega|simp<;>omega) _|apply zBd)|assumption))⟩ ?_
 rintro W5 ⟨a0,a1,a2,a3,hb5⟩
 refine RX.region RX.fN (fun w'=>w'.cell? ⟨w.heap.size,0,none⟩=some (.slice q r.sh.length cap)∧w'.cell? ⟨w.heap.size,1,none⟩=some (.int .i64 r.value)∧w'.cell? ⟨w.heap.size,2,none⟩=some (.int .i64 r.weight)∧w'.cell? ⟨w.heap.size,3,none⟩=some (.int .i64 r.report)) (by kernel_rfl) (by kernel_rfl) (⟨a0,a1,a2,a3⟩) (fun OPS HO QR hQR=>?_)
 repeat (refine zeX (fun R hR=>?_);(first|refine zbX rfl rfl (by first|exact .inl rfl|exact .inr rfl) (by simp only[zE,zF,zG,zH];rfl) (by simp only[zA,zB,zC,zD];rfl) ?_|refine zcX rfl rfl rfl (by simp only[zE,zF,zG,zH];rfl) (by simp only[zA,zB,zC,zD];rfl) ?_|(refine zdX rfl rfl rfl rfl ?_;apply zEx;apply zEx;refine⟨fun w' hS K hK=>?_,?_,?_⟩;(focus (obtain⟨hS1,hS2,hS3,hS4⟩:=hS;go_wp2;exact hK _ _ (by simp only[zl,zG,zH];first|exact RX.bneB _|rfl) rfl));(focus (simp only[zA,zB,zC,zD];rfl))));refine hR _ _ ?_;clear hR R)
 refine zeX (fun R hR=>?_)
 refine zgX (by first|rfl|(rw[HO.out];rfl)) rfl (fun K hK=>?_)
 go_wp2_with fail
 rw[←hrw.out]
 refine (rsum_any r q cap x p xc _ ?_ hc hl hw ?_ hb hxl).mono ?_
 ·exact (hS.below hb5).below (by repeat (first|(with_reducible first|assumption|exact zBr _ _|refine zBs ?_ (by first|omega|simp<;>omega) _|refine zBa ?_ (by first|omega|simp<;>omega) _|apply zBd)|assumption))
 ·exact (hx.below hb5).below (by repeat (first|(with_reducible first|assumption|exact zBr _ _|refine zBs ?_ (by first|omega|simp<;>omega) _|refine zBa ?_ (by first|omega|simp<;>omega) _|apply zBd)|assumption))
 rintro e w6 ⟨rfl,hb6⟩
 rw[←HV.out]
 rw[hrw.out]
 replace hb6:Below W5.heap.size W5 w6:=⟨hb6.os,hb6.tape,hb6.output,hb6.size,hb6.block⟩
 have z0:=zP hb6 a0
 have z1:=zP hb6 a1
 have z2:=zP hb6 a2
 have z3:=zP hb6 a3
 have HB7:=zN (hb5.trans (hb6.mono hb5.size))
 clear hb6 hb5 a0 a1 a2 a3 hS hx
 refine hK _ _ ⟨⟨z0,z1,z2,z3⟩,hR _ _ ?_⟩;clear hK K hR R
 repeat (refine zeX (fun R hR=>?_);(first|refine zbX rfl rfl (by first|exact .inl rfl|exact .inr rfl) (by simp only[zE,zF,zG,zH];rfl) (by simp only[zA,zB,zC,zD];rfl) ?_|refine zcX rfl rfl rfl (by simp only[zE,zF,zG,zH];rfl) (by simp only[zA,zB,zC,zD];rfl) ?_|(refine zdX rfl rfl rfl rfl ?_;apply zEx;apply zEx;refine⟨fun w' hS K hK=>?_,?_,?_⟩;(focus (obtain⟨hS1,hS2,hS3,hS4⟩:=hS;go_wp2;exact hK _ _ (by simp only[zl,zG,zH];first|exact RX.bneB _|rfl) rfl));(focus (simp only[zA,zB,zC,zD];rfl))));refine hR _ _ ?_;clear hR R)
 refine RX.wpL_nil (hQR _ _ (⟨z0,z1,z2,z3⟩) ?_);clear hQR QR HO OPS
 go_wp2
 go_ret
 exact⟨rfl,HB7.out⟩
end Go.Proofs.YtojkamfabapcoaaGreatDoor
