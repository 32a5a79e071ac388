import Derived.Test.YtojkamfabapcoaaGreatDoorKSum
import Derived.Shelf.Abstract
import Derived.Test.YtojkamfabapcoaaGreatDoorKLinV
import Derived.Test.YtojkamfabapcoaaGreatDoorKCost
import Derived.Test.YtojkamfabapcoaaGreatDoorKDot
import Derived.Test.YtojkamfabapcoaaGreatDoorRg
import Derived.Deep.DeepCutAuto
import Derived.Test.YtojkamfabapcoaaGreatDoorRing
import Derived.Test.YtojkamfabapcoaaGreatDoorProg
import Derived.Test.YtojkamfabapcoaaGreatDoorKRegion
import Derived.WalkKit
import Derived.WalkLawsBesides
import Derived.WalkSpells
import Derived.Lib.Hide
import Derived.Test.YtojkamfabapcoaaGreatDoorKRef
import Derived.Test.YtojkamfabapcoaaGreatDoorK23
import Derived.Test.YtojkamfabapcoaaGreatDoorKCodes
import Derived.Test.YtojkamfabapcoaaGreatDoorKLaw23
set_option maxRecDepth 100000
set_option maxHeartbeats 8000000
set_option linter.unusedSimpArgs false
set_option linter.unusedVariables false
namespace Go.Proofs.YtojkamfabapcoaaGreatDoor
open Go.RowKit
theorem search_any (n:Nat) (hn:n≤4611686018427387905) (g:FuncId) (caps:Array Value) (q:Nat→Bool) (hmono:∀ i j,i≤j→q i=true→q j=true) (w:World)
  (hen:∀ args w,(callFunc g args).run Tryz.prog w=.ok (.enter g args) w)
  (hq:∀ i,i < n→∀ w',Below w.heap.size w w'→Calls Tryz.prog g (#[.int .i64 (i:Int)] ++ caps) w' fun e w''=>e=.returned (.bool (q i))∧Below w'.heap.size w' w'') :
  Calls Tryz.prog 88 #[.int .i64 (n:Int),.func (.func g) #[] caps] w fun e w'=>∃ r:Nat,e=.returned (.int .i64 (r:Int))∧r≤n∧(∀ j,j < r→q j=false)∧(r < n→q r=true)∧Below w.heap.size w w':=by
 have HQ:=zN hq
 have HM:=zN hmono
 have HN:=zN hn
 clear hq hmono hn
 go_enter Tryz.func88,Tryz.ntmps88
 go_wp2
 go_loopw [5,6] (fun a b wr=>∃ i j:Nat,i≤j∧j≤n∧a=.int .i64 (i:Int)∧b=.int .i64 (j:Int)∧Hid (∀ k,k < i→q k=false)∧Hid (j < n→q j=true)∧Below w.heap.size w wr) (fun a b _=>(intOf b-intOf a).toNat)
 case atStart=>exact⟨0,n,Nat.zero_le _,Nat.le_refl _,rfl,rfl,zN fun k hk=>by omega,zN fun h=>by omega,zBr _ _⟩
 case round=>
  obtain⟨i,j,hij,hjn,rfl,rfl,HI,HJ,hb⟩:=hrel
  by_cases hlt:i < j
  ·go_wp2_with fail
   have hm:=mid_wrap i j (by have:=HN.out;omega)
   rw[hm]
   obtain⟨m,hmd⟩:∃ m,m=(i+j) / 2:=⟨_,rfl⟩
   rw[←hmd]
   have hm1:i≤m:=by omega
   have hm2:m < j:=by omega
   clear hm hmd
   refine (HQ.out m (by omega) wr hb).mono ?_
   rintro e w1 ⟨rfl,hb1⟩
   have hb2:Below w.heap.size w w1:=hb.trans (hb1.mono hb.size)
   clear hb hb1
   have HM2:Hid (m+1≤9223372036854775807):=by show _≤_;have:=HN.out;omega
   have hm3:m≤4611686018427387905:=by have:=HN.out;omega
   cases hqm:q m
   ·have HqM:=zN hqm
    clear hqm
    go_wp2
    go_roundw
    case rel=>exact⟨m+1,j,by omega,hjn,by go_num,rfl,zN fun k hk=>by
     by_cases hkm:q k=true
     ·have:=HM.out k m (by omega) hkm
      rw[HqM.out] at this;cases this
     ·simpa using hkm,HJ,hb2⟩
    case measure=>simp[intOf];omega
   ·have HqM:=zN hqm
    clear hqm
    go_wp2
    go_roundw
    case rel=>exact⟨i,m,hm1,by omega,rfl,rfl,HI,zN fun _=>HqM.out,hb2⟩
    case measure=>simp[intOf];omega
  ·obtain rfl:i=j:=by omega
   go_wp2
   go_ret
   exact⟨i,rfl,hjn,HI.out,HJ.out,hb⟩
def enough (sq anchor:Int) (r:Nat):Bool:=decide (sq≤r*anchor*(r*anchor))
theorem enough_mono (sq anchor:Int) (ha:0≤anchor) (i j:Nat) (h:i≤j) (hi:enough sq anchor i=true):enough sq anchor j=true:=by
 unfold enough at *
 have h1:(i:Int)*anchor≤j*anchor:=Int.mul_le_mul_of_nonneg_right (by omega) ha
 have h2:0≤(i:Int)*anchor:=Int.mul_nonneg (by omega) ha
 have h3:=Int.mul_le_mul h1 h1 h2 (by omega)
 simp only[decide_eq_true_eq] at *
 omega
theorem enough_any (r:Nat) (anchor sh sl:Int) (B3 B2:Nat) (w:World) (h3:w.cell? ⟨B3,0,none⟩=some (.int .i64 anchor)) (h20:w.cell? ⟨B2,0,none⟩=some (.int .i64 sh)) (h21:w.cell? ⟨B2,1,none⟩=some (.int .u64 sl))
  (hl0:0≤sl) (hl1:sl≤18446744073709551615) (hr0:0≤(r:Int)*anchor) (hr1:(r:Int)*anchor≤4611686018427387904) :
  Calls Tryz.prog 87 #[.int .i64 (r:Int),.pointer (some ⟨B3,0,none⟩),.pointer (some ⟨B2,0,none⟩)] w fun e w'=>e=.returned (.bool (enough (sh*18446744073709551616+sl) anchor r))∧Below w.heap.size w w':=by
 obtain⟨c,hc⟩:∃ c,c=cmpW ((r:Int)*anchor*(r*anchor) / 18446744073709551616) ((r:Int)*anchor*(r*anchor) % 18446744073709551616) sh sl:=⟨_,rfl⟩
 have HE:Hid (decide (0≤c)=enough (sh*18446744073709551616+sl) anchor r):=by
  show _=_
  rw[hc,cmpW_div _ _ _ hl0 (by omega)]
  unfold enough sgn
  rw[Bool.eq_iff_iff]
  simp only[decide_eq_true_eq]
  (repeat' split)<;>omega
 have HC:=zN hc
 clear hc hl0 hl1
 go_enter Tryz.func87,Tryz.ntmps87
 go_wp2
 refine RX.region RX.fL (fun w'=>w'.cell? ⟨B3,0,none⟩=some (.int .i64 anchor)∧w'.cell? ⟨B2,0,none⟩=some (.int .i64 sh)∧w'.cell? ⟨B2,1,none⟩=some (.int .u64 sl)) (by kernel_rfl) (by kernel_rfl) (⟨h3,h20,h21⟩) (fun OPS HO QR hQR=>?_)
 repeat (refine zeX (fun R hR=>?_);(first|refine zbX rfl rfl (by first|exact .inl rfl|exact .inr rfl) (by simp only[zE,zF,zG,zH];rfl) (by simp only[zA,zB,zC,zD];rfl) ?_|(refine zdX rfl rfl rfl rfl ?_;apply zEx;apply zEx;refine⟨fun w' hS K hK=>?_,?_,?_⟩;(focus (obtain⟨hS1,hS2,hS3⟩:=hS;go_wp2;exact hK _ _ (by simp only[zl,zG,zH];first|exact zf (by omega)|exact zg (by omega)|exact zh (by omega)|exact zi (by omega)|exact zj (by omega)|exact zk (by omega)|exact RX.bneB _|rfl) rfl));(focus (simp only[zA,zB,zC,zD];rfl))));refine hR _ _ ?_;clear hR R)
 refine zeX (fun R hR=>?_)
 refine zgX (by first|rfl|(rw[HO.out];rfl)) rfl (fun K hK=>?_)
 go_wp2_with fail
 refine (product_any _ _ _ (by omega) (by omega) (by omega) (by omega)).mono ?_
 rintro e w1 ⟨rfl,hb1⟩
 have k1:=zP hb1 h3
 have k2:=zP hb1 h20
 have k3:=zP hb1 h21
 refine hK _ _ ⟨⟨k1,k2,k3⟩,hR _ _ ?_⟩;clear hK K hR R
 repeat (refine zeX (fun R hR=>?_);(first|refine zbX rfl rfl (by first|exact .inl rfl|exact .inr rfl) (by simp only[zE,zF,zG,zH];rfl) (by simp only[zA,zB,zC,zD];rfl) ?_|(refine zdX rfl rfl rfl rfl ?_;apply zEx;apply zEx;refine⟨fun w' hS K hK=>?_,?_,?_⟩;(focus (obtain⟨hS1,hS2,hS3⟩:=hS;go_wp2;exact hK _ _ (by simp only[zl,zG,zH];first|exact zf (by omega)|exact zg (by omega)|exact zh (by omega)|exact zi (by omega)|exact zj (by omega)|exact zk (by omega)|exact RX.bneB _|rfl) rfl));(focus (simp only[zA,zB,zC,zD];rfl))));refine hR _ _ ?_;clear hR R)
 refine zeX (fun R hR=>?_)
 refine zgX (by first|rfl|(rw[HO.out];rfl)) rfl (fun K hK=>?_)
 go_wp2_with fail
 refine (compare_any _ _ _ _ _).mono ?_
 rintro e w2 ⟨rfl,hb2⟩
 rw[←HC.out]
 refine hK _ _ ⟨⟨zP hb2 k1,zP hb2 k2,zP hb2 k3⟩,hR _ _ ?_⟩;clear hK K hR R
 repeat (refine zeX (fun R hR=>?_);(first|refine zbX rfl rfl (by first|exact .inl rfl|exact .inr rfl) (by simp only[zE,zF,zG,zH];rfl) (by simp only[zA,zB,zC,zD];rfl) ?_|(refine zdX rfl rfl rfl rfl ?_;apply zEx;apply zEx;refine⟨fun w' hS K hK=>?_,?_,?_⟩;(focus (obtain⟨hS1,hS2,hS3⟩:=hS;go_wp2;exact hK _ _ (by simp only[zl,zG,zH];first|exact zf (by omega)|exact zg (by omega)|exact zh (by omega)|exact zi (by omega)|exact zj (by omega)|exact zk (by omega)|exact RX.bneB _|rfl) rfl));(focus (simp only[zA,zB,zC,zD];rfl))));refine hR _ _ ?_;clear hR R)
 refine RX.wpL_nil (hQR _ _ (⟨zP hb2 k1,zP hb2 k2,zP hb2 k3⟩) ?_);clear hQR QR HO OPS
 have hb:Below w.heap.size w w2:=((zBr _ w).drew.trans hb1).trans (hb2.mono hb1.size)
 clear hb1 hb2 k1 k2 k3 h3 h20 h21
 go_wp2
 go_ret
 rw[←HE.out]
 exact⟨rfl,hb⟩
theorem enough_last (sq anchor:Int) (h1:1≤anchor) (h2:anchor≤1000000) (hs:sq≤21267647932558653966460912964485513216):sq≤(4611686018427387904 / anchor+1)*anchor*((4611686018427387904 / anchor+1)*anchor):=by
 have e:=Int.mul_ediv_add_emod 4611686018427387904 anchor
 have e2:=Int.emod_lt_of_pos 4611686018427387904 (show 0 < anchor by omega)
 have e3:4611686018427387904≤(4611686018427387904 / anchor+1)*anchor:=by
  rw[Int.add_mul,Int.mul_comm _ anchor];omega
 have:=Int.mul_le_mul e3 e3 (by omega) (by omega)
 omega
theorem radius_ok (sh sl anchor:Int) (w:World) (hl0:0≤sl) (hl1:sl≤18446744073709551615) (hh:0≤sh) (hs:sh*18446744073709551616+sl≤21267647932558653966460912964485513216) (ha1:1≤anchor) (ha2:anchor≤1000000) :
  Calls Tryz.prog 40 #[.agg #[.int .i64 sh,.int .u64 sl],.int .i64 anchor] w fun e w'=>∃ r:Nat,e=.returned (.tuple #[.int .i64 (r:Int),.int .i64 0])∧(r:Int)≤4611686018427387904 / anchor+1∧
   enough (sh*18446744073709551616+sl) anchor r=true∧(∀ j,j < r→enough (sh*18446744073709551616+sl) anchor j=false)∧Below w.heap.size w w':=by
 have hc0:cmpW sh sl 1152921504606846976 0≤0:=by
  rw[cmpW_num _ _ _ _ hl0 (by omega) (by omega) (by omega)]
  unfold sgn
  (repeat' split)<;>omega
 have HLAST:=zN (enough_last _ anchor ha1 ha2 hs)
 generalize hc:cmpW sh sl 1152921504606846976 0=c at hc0
 have HC:=zN hc
 have hane:(anchor == 0)=false:=by rw[beq_eq_false_iff_ne];omega
 have hq0:0≤4611686018427387904 / anchor:=Int.ediv_nonneg (by omega) (by omega)
 have hq1:4611686018427387904 / anchor≤4611686018427387904:=Int.ediv_le_self _ (by omega)
 have HMUL:=zN (Int.ediv_mul_le 4611686018427387904 (show anchor≠0 by omega))
 have HL:=zN (And.intro hl0 hl1)
 clear hc hs hl0 hl1
 go_enter Tryz.func40,Tryz.ntmps40
 go_wp2
 refine RX.region RX.fL (fun w'=>w'.cell? ⟨w.heap.size+1,0,none⟩=some (.int .i64 anchor)∧w'.cell? ⟨w.heap.size,0,none⟩=some (.int .i64 sh)∧w'.cell? ⟨w.heap.size,1,none⟩=some (.int .u64 sl)) (by kernel_rfl) (by kernel_rfl) ((by simp[zO,zJ,zQ])) (fun OPS HO QR hQR=>?_)
 repeat (refine zeX (fun R hR=>?_);(first|refine zaX (by first|rfl|(rw[HO.out];rfl)) (by simp only[zA,zB,zC,zD];rfl) ?_|refine zbX (by first|rfl|(rw[HO.out];rfl)) rfl (by first|exact .inl rfl|exact .inr rfl) (by simp only[zE,zF,zG,zH];rfl) (by simp only[zA,zB,zC,zD];rfl) ?_|(refine zdX (by first|rfl|(rw[HO.out];rfl)) rfl rfl rfl ?_;apply zEx;apply zEx;refine⟨fun w' hS K hK=>?_,?_,?_⟩;(focus (obtain⟨hS1,hS2,hS3⟩:=hS;go_wp2;exact hK _ _ (by simp only[zl,zG,zH];first|exact zf (by omega)|exact zg (by omega)|exact zh (by omega)|exact zi (by omega)|exact zj (by omega)|exact zk (by omega)|exact RX.bneB _|rfl) rfl));(focus (simp only[zA,zB,zC,zD];rfl))));refine hR _ _ ?_;clear hR R)
 refine zeX (fun R hR=>?_)
 refine zgX (by first|rfl|(rw[HO.out];rfl)) rfl (fun K hK=>?_)
 go_wp2_with fail
 refine (product_any _ _ _ (by omega) (by omega) (by omega) (by omega)).mono ?_
 rintro e w1 ⟨rfl,hb1⟩
 have k1:w1.cell? ⟨w.heap.size+1,0,none⟩=some (.int .i64 anchor):=zP hb1 (by simp[zO,zJ,zQ])
 have k2:w1.cell? ⟨w.heap.size,0,none⟩=some (.int .i64 sh):=zP hb1 (by simp[zO,zJ,zQ])
 have k3:w1.cell? ⟨w.heap.size,1,none⟩=some (.int .u64 sl):=zP hb1 (by simp[zO,zJ,zQ])
 have hB1:Below w.heap.size w w1:=Below.trans (by repeat (first|(with_reducible first|assumption|exact zBr _ _|refine zBs ?_ (by first|omega|simp<;>omega) _|refine zBa ?_ (by first|omega|simp<;>omega) _|apply zBd)|assumption)) (hb1.mono (by simp;omega))
 clear hb1
 refine hK _ _ ⟨⟨k1,k2,k3⟩,hR _ _ ?_⟩;clear hK K hR R
 repeat (refine zeX (fun R hR=>?_);(first|refine zaX (by first|rfl|(rw[HO.out];rfl)) (by simp only[zA,zB,zC,zD];rfl) ?_|refine zbX (by first|rfl|(rw[HO.out];rfl)) rfl (by first|exact .inl rfl|exact .inr rfl) (by simp only[zE,zF,zG,zH];rfl) (by simp only[zA,zB,zC,zD];rfl) ?_|(refine zdX (by first|rfl|(rw[HO.out];rfl)) rfl rfl rfl ?_;apply zEx;apply zEx;refine⟨fun w' hS K hK=>?_,?_,?_⟩;(focus (obtain⟨hS1,hS2,hS3⟩:=hS;go_wp2;exact hK _ _ (by simp only[zl,zG,zH];first|exact zf (by omega)|exact zg (by omega)|exact zh (by omega)|exact zi (by omega)|exact zj (by omega)|exact zk (by omega)|exact RX.bneB _|rfl) rfl));(focus (simp only[zA,zB,zC,zD];rfl))));refine hR _ _ ?_;clear hR R)
 refine zeX (fun R hR=>?_)
 refine zgX (by first|rfl|(rw[HO.out];rfl)) rfl (fun K hK=>?_)
 go_wp2_with fail
 refine (compare_any _ _ _ _ _).mono ?_
 rintro e w2 ⟨rfl,hb2⟩
 have m1:=zP hb2 k1
 have m2:=zP hb2 k2
 have m3:=zP hb2 k3
 have hB2:Below w.heap.size w w2:=hB1.trans (hb2.mono hB1.size)
 clear hb2 k1 k2 k3 hB1
 rw[HC.out]
 refine hK _ _ ⟨⟨m1,m2,m3⟩,hR _ _ ?_⟩;clear hK K hR R
 repeat (refine zeX (fun R hR=>?_);(first|refine zaX (by first|rfl|(rw[HO.out];rfl)) (by simp only[zA,zB,zC,zD];rfl) ?_|refine zbX (by first|rfl|(rw[HO.out];rfl)) rfl (by first|exact .inl rfl|exact .inr rfl) (by simp only[zE,zF,zG,zH];rfl) (by simp only[zA,zB,zC,zD];rfl) ?_|(refine zdX (by first|rfl|(rw[HO.out];rfl)) rfl rfl rfl ?_;apply zEx;apply zEx;refine⟨fun w' hS K hK=>?_,?_,?_⟩;(focus (obtain⟨hS1,hS2,hS3⟩:=hS;go_wp2;exact hK _ _ (by simp only[zl,zG,zH];first|exact zf (by omega)|exact zg (by omega)|exact zh (by omega)|exact zi (by omega)|exact zj (by omega)|exact zk (by omega)|exact RX.bneB _|rfl) rfl));(focus (simp only[zA,zB,zC,zD];rfl))));refine hR _ _ ?_;clear hR R)
 refine RX.wpL_nil (hQR _ _ (⟨m1,m2,m3⟩) ?_);clear hQR QR HO OPS
 go_wp2_with fail
 obtain⟨N,hN⟩:∃ N:Nat,(N:Int)=4611686018427387904 / anchor+1:=⟨(4611686018427387904 / anchor+1).toNat,by omega⟩
 rw[←hN]
 have hen:∀ args w,(callFunc 87 args).run Tryz.prog w=.ok (.enter 87 args) w:=Go.Proofs.enters_of Tryz.func87 (by kernel_rfl) rfl
 have hlast:enough (sh*18446744073709551616+sl) anchor N=true:=by
  have:=HLAST.out
  unfold enough
  rw[decide_eq_true_eq,hN];exact this
 have hqs:∀ i,i < N→∀ w',Below w2.heap.size w2 w'→Calls Tryz.prog 87 (#[.int .i64 (i:Int)] ++ #[.pointer (some ⟨w.heap.size+1,0,none⟩),.pointer (some ⟨w.heap.size,0,none⟩)]) w' fun e w''=>e=.returned (.bool (enough (sh*18446744073709551616+sl) anchor i))∧Below w'.heap.size w' w'':=by
  intro i hi w' hb'
  have h0:0≤(i:Int)*anchor:=Int.mul_nonneg (by omega) (by omega)
  have h1:(i:Int)*anchor≤4611686018427387904:=Int.le_trans (Int.mul_le_mul_of_nonneg_right (show (i:Int)≤4611686018427387904 / anchor by omega) (by omega)) HMUL.out
  exact enough_any i anchor sh sl (w.heap.size+1) w.heap.size w' (zP hb' m1) (zP hb' m2) (zP hb' m3) HL.out.1 HL.out.2 h0 h1
 refine (search_any N (by omega) 87 _ (enough (sh*18446744073709551616+sl) anchor) (enough_mono _ anchor (by omega)) w2 hen hqs).mono ?_
 rintro e w3 ⟨r,rfl,hrN,hr1,hr2,hb3⟩
 have hB3:Below w.heap.size w w3:=hB2.trans (hb3.mono hB2.size)
 have HR:=zN (And.intro hrN (And.intro hr1 (And.intro hr2 (And.intro hlast hN))))
 clear hr1 hr2 hrN hlast hN hb3 hB2 m1 m2 m3 hqs hen
 go_wp2
 go_ret2
 obtain⟨h1,h2,h3,h4,h5⟩:=HR.out
 refine⟨r,rfl,by omega,?_,h2,hB3⟩
 by_cases hr:r < N
 ·exact h3 hr
 ·obtain rfl:r=N:=by omega
  exact h4
open Go.RowKit Go.Grid
theorem index_int (p:Option Addr) (L:List Int) (cap n:Nat) (w:World) (hl:L.length=n) (hV:VecAt w p L) (hn:n≤1000000000) (g:FuncId) (t:Int→Bool)
  (hen:∀ args w,(callFunc g args).run Tryz.prog w=.ok (.enter g args) w)
  (hq:∀ x∈L,∀ w',Below w.heap.size w w'→Calls Tryz.prog g #[.int .i64 x] w' fun e w''=>e=.returned (.bool (t x))∧Below w'.heap.size w' w'') :
  Calls Tryz.prog 118 #[.slice p n cap,.func (.func g) #[] #[]] w fun e w'=>∃ r:Int,e=.returned (.int .i64 r)∧-1≤r∧decide (0≤r)=L.any t∧Below w.heap.size w w':=by
 have HQ:=zN hq
 have HV:=zN hV
 have HL:=zN hl
 clear hq hV hl
 go_enter Tryz.func118,Tryz.ntmps118
 go_wp2
 go_loopw [8] (fun a wr=>∃ k:Nat,k≤n∧a=.int .i64 (k:Int)∧Hid (∀ j (hj:j < k) (h:j < L.length),t L[j]=false)∧Below w.heap.size w wr) (fun a _=>n-(intOf a).toNat)
 case atStart=>exact⟨0,Nat.zero_le _,rfl,zN fun j hj=>by omega,zBr _ _⟩
 case round=>
  obtain⟨k,hk,rfl,HI,hb⟩:=hrel
  by_cases hlt:k < n
  ·have hltL:k < L.length:=by rw[HL.out];exact hlt
   obtain⟨b,o,rfl,hbl,hcell⟩:=HV.out.cell (by omega)
   have ck:=zP hb (hcell k hltL)
   have hdk:decide ((k:Int) < (n:Int))=true:=zDt (by omega)
   have hk0:(0:Int)≤(k:Int):=by omega
   have hkI:(k:Int) < (n:Int):=by omega
   have HK:=zN (HQ.out L[k] (List.getElem_mem _) wr hb)
   obtain⟨x,hx⟩:∃ x,x=L[k]:=⟨_,rfl⟩
   rw[←hx] at ck HK
   have HX:=zN hx
   clear hx hcell
   go_wp2_with fail
   refine HK.out.mono ?_
   rintro e w1 ⟨rfl,hb1⟩
   have hb2:Below w.heap.size w w1:=hb.trans (hb1.mono hb.size)
   clear hb hb1 HK ck
   cases he:t x
   ·have HE:=zN he
    clear he
    go_wp2
    go_roundw
    case rel=>exact⟨k+1,by omega,by go_num,zN fun j hj hd=>by
     by_cases hjk:j=k
     ·subst hjk;rw[←HX.out];exact HE.out
     ·exact HI.out j (by omega) hd,hb2⟩
    case measure=>simp[intOf];omega
   ·have HE:=zN he
    clear he
    go_wp2
    go_ret
    refine⟨(k:Int),rfl,by omega,?_,hb2⟩
    have h1:L.any t=true:=List.any_eq_true.2 ⟨L[k],List.getElem_mem _,by rw[←HX.out];exact HE.out⟩
    rw[h1];exact zDt (by omega)
  ·obtain rfl:k=n:=by omega
   have hdk:decide ((k:Int) < (k:Int))=false:=zDf (by omega)
   go_wp2
   go_ret
   refine⟨-1,rfl,by omega,?_,hb⟩
   have h1:L.any t=false:=List.any_eq_false.2 (fun x hx=>by
    obtain⟨j,hj,rfl⟩:=List.getElem_of_mem hx
    rw[HI.out j (by rw[HL.out] at hj;exact hj) hj];simp)
   rw[h1];rfl
theorem contains_int (p:Option Addr) (L:List Int) (cap n:Nat) (w:World) (hl:L.length=n) (hV:VecAt w p L) (hn:n≤1000000000) (g:FuncId) (t:Int→Bool)
  (hen:∀ args w,(callFunc g args).run Tryz.prog w=.ok (.enter g args) w)
  (hq:∀ x∈L,∀ w',Below w.heap.size w w'→Calls Tryz.prog g #[.int .i64 x] w' fun e w''=>e=.returned (.bool (t x))∧Below w'.heap.size w' w'') :
  Calls Tryz.prog 90 #[.slice p n cap,.func (.func g) #[] #[]] w fun e w'=>e=.returned (.bool (L.any t))∧Below w.heap.size w w':=by
 have HI:=zN (index_int p L cap n w hl hV hn g t hen hq)
 clear hl hV hq hen
 go_enter Tryz.func90,Tryz.ntmps90
 go_wp2_with fail
 refine HI.out.mono ?_
 rintro e w1 ⟨r,rfl,hr,hd,hb⟩
 clear HI
 by_cases h0:0≤r
 ·have h1:L.any t=true:=by rw[←hd];exact zDt h0
  have H1:=zN h1
  clear hd h1
  go_wp2
  go_ret
  exact⟨by rw[H1.out];simp[h0],hb⟩
 ·have h1:L.any t=false:=by rw[←hd];exact zDf h0
  have H1:=zN h1
  clear hd h1
  go_wp2
  go_ret
  exact⟨by rw[H1.out];simp[h0],hb⟩
theorem subL_len {x y:List Int} (h:x.length=y.length):(subL x y).length=x.length:=by simp[subL];omega
theorem dot_sq {B:Int} (hB:0≤B):∀ x:List Int,Bd B x→0≤dotL x x∧dotL x x≤(x.length:Int)*(B*B)
 |[],_=>by simp[dotL]
 |a :: x,hx=>by
  have ih:=dot_sq hB x (fun z hz=>hx z (by simp[hz]))
  have h1:=hx a (by simp)
  have h2:=sq_nn a
  have h3:a*a≤B*B:=by
   have e1:(a*a).natAbs≤B.natAbs*B.natAbs:=by rw[Int.natAbs_mul];exact Nat.mul_le_mul (by omega) (by omega)
   have e2:(B*B).natAbs=B.natAbs*B.natAbs:=Int.natAbs_mul B B
   have e3:=Int.mul_nonneg hB hB
   omega
  have e4:dotL (a :: x) (a :: x)=a*a+dotL x x:=rfl
  rw[e4]
  simp only[List.length_cons,Int.natCast_add,Int.add_mul]
  omega
theorem csquare_any (p:Option Addr) (zs:List Int) (c n:Nat) (w:World) (h1:zs.length=n) (hV:VecAt w p zs) (hl:n≤1000) (bz:I64L zs) :
  Calls Tryz.prog 46 #[.slice p n c] w fun e w'=>e=.returned (wv (dotL zs zs))∧Below w.heap.size w w':=by
 have HD:Hid (∀ w',VecAt w' p zs→Calls Tryz.prog 93 #[.slice p n c,.slice p n c] w' fun e w''=>e=.returned (.tuple #[wv (dotL zs zs),.int .i64 0])∧Below w'.heap.size w' w''):=zN (fun w' h=>dot_at p p zs zs c c n w' h1 h1 h h hl bz bz)
 clear h1 hl bz
 go_enter Tryz.func46,Tryz.ntmps46
 go_wp2_with fail
 refine (HD.out _ (hV.below (by repeat (first|(with_reducible first|assumption|exact zBr _ _|refine zBs ?_ (by first|omega|simp<;>omega) _|refine zBa ?_ (by first|omega|simp<;>omega) _|apply zBd)|assumption)))).mono ?_
 rintro e w1 ⟨rfl,hb⟩
 obtain⟨C,D,q1,q2,hS⟩:=wv_parts (dotL zs zs)
 clear q1 q2
 rw[hS]
 have r0:w1.cell? ⟨w.heap.size,0,none⟩=some (.int .i64 0):=zP hb (by simp[zO,zJ,zQ])
 have r1:w1.cell? ⟨w.heap.size,1,none⟩=some (.int .u64 0):=zP hb (by simp[zO,zJ,zQ])
 have rf:∀ k,w1.frozen? ⟨w.heap.size,k,none⟩=false:=fun k=>by
  rw[zFb (hb.block _ (by simp))];simp
 have f0:=rf 0
 have f1:=rf 1
 have hlt:w.heap.size < w1.heap.size:=zM _ _ r0
 have hB:Below w.heap.size w w1:=Below.trans (by repeat (first|(with_reducible first|assumption|exact zBr _ _|refine zBs ?_ (by first|omega|simp<;>omega) _|refine zBa ?_ (by first|omega|simp<;>omega) _|apply zBd)|assumption)) (hb.mono (by simp<;>omega))
 have HS:=zN hS
 clear hb rf HD hS hV
 go_wp2
 refine absW (F:=fun w'=>w'.cell? ⟨w.heap.size,0,none⟩=some (.int .i64 C)∧w'.cell? ⟨w.heap.size,1,none⟩=some (.int .u64 D)∧Below w.heap.size w w') ⟨?_,?_,(by repeat (first|(with_reducible first|assumption|exact zBr _ _|refine zBs ?_ (by first|omega|simp<;>omega) _|refine zBa ?_ (by first|omega|simp<;>omega) _|apply zBd)|assumption))⟩ ?_
 ·rw[zJ,if_neg (by simp<;>omega),zK _ _ _ _ (by simp)];exact zL _ _ _ (by rw[r0];rfl)
 ·rw[zJ,if_neg (by simp<;>omega)];exact zL _ _ _ (by rw[zK _ _ _ _ (by simp),r1];rfl)
 rintro W4 ⟨t0,t1,hBB⟩
 refine bodyPost_ret (v:=.agg #[.int .i64 C,.int .u64 D]) ?_ rfl ⟨by rw[HS.out],hBB⟩
 simp[results,Tryz.results46,go_sem,t0,t1]
theorem beyond_any (x:Int) (w:World):Calls Tryz.prog 91 #[.int .i64 x] w fun e w'=>e=.returned (.bool (decide (x < -144115188075855872) || decide (x > 144115188075855872)))∧Below w.heap.size w w':=by
 go_enter Tryz.func91,Tryz.ntmps91
 by_cases h:x < -144115188075855872
 ·have h1:decide (x < -144115188075855872)=true:=zDt h
  go_wp2
  go_ret
  exact⟨by simp[h],zBr _ _⟩
 ·have h1:decide (x < -144115188075855872)=false:=zDf h
  go_wp2
  go_ret
  exact⟨by simp[h],zBr _ _⟩
def beyondB (R:List Int):Bool:=R.any (fun x=>decide (x < -144115188075855872) || decide (x > 144115188075855872))
theorem beyondB_false {R:List Int} (h:Bd 144115188075855872 R):beyondB R=false:=by
 unfold beyondB
 rw[List.any_eq_false]
 intro x hx
 have:=h x hx
 simp;omega
theorem containsB_any (p:Option Addr) (R:List Int) (cap n:Nat) (w:World) (hl:R.length=n) (hV:VecAt w p R) (hn:n≤1000000000) :
  Calls Tryz.prog 90 #[.slice p n cap,.func (.func 91) #[] #[]] w fun e w'=>e=.returned (.bool (beyondB R))∧Below w.heap.size w w':=
 contains_int p R cap n w hl hV hn _ _ (Go.Proofs.enters_of Tryz.func91 (by kernel_rfl) rfl) (fun x _ w' _=>beyond_any x w')
def revTo (r m:List Int) (k:Nat):List Int:=(lessL r m).take k ++ m.drop k
theorem revTo_len {r m:List Int} (h:m.length=r.length) {k:Nat} (hk:k≤r.length):(revTo r m k).length=r.length:=by
 have:=lessL_len h
 simp[revTo];omega
theorem revTo_get {r m:List Int} (h:m.length=r.length) {k:Nat} (hk:k < r.length):(revTo r m k)[k]'(by rw[revTo_len h (by omega)];exact hk)=m[k]'(by omega):=by
 have:=lessL_len h
 unfold revTo
 rw[List.getElem_append_right (by rw[List.length_take];omega)]
 have e:((lessL r m).take k).length=k:=by simp;omega
 simp only[e,Nat.sub_self,List.getElem_drop,Nat.add_zero]
theorem revTo_succ {r m:List Int} (h:m.length=r.length) {k:Nat} (hk:k < r.length):revTo r m (k+1)=(revTo r m k).set k (r[k]-m[k]'(by omega)):=by
 have h1:=lessL_len h
 unfold revTo
 have e:((lessL r m).take k).length=k:=by simp;omega
 rw[List.set_append_right _ _ (by omega),e,Nat.sub_self,List.take_succ_eq_append_getElem (by omega),List.append_assoc]
 congr 1
 rw[show m.drop k=m[k]'(by omega) :: m.drop (k+1) from (List.drop_eq_getElem_cons (by omega)),List.set_cons_zero]
 simp[lessL]
theorem revTo_end {r m:List Int} (h:m.length=r.length):revTo r m r.length=lessL r m:=by
 unfold revTo
 rw[←h,List.drop_length,List.append_nil,List.take_of_length_le (by rw[lessL_len h];omega)]
theorem lessL_bd {A B:Int} {r m:List Int} (hr:Bd A r) (hm:Bd B m):Bd (A+B) (lessL r m):=by
 intro z hz
 unfold lessL at hz
 obtain⟨i,hi,rfl⟩:=List.getElem_of_mem hz
 rw[List.length_zipWith] at hi
 rw[List.getElem_zipWith]
 have:=hr _ (List.getElem_mem (show i < r.length by omega))
 have:=hm _ (List.getElem_mem (show i < m.length by omega))
 omega
def CertAt (w:World) (o:Nat) (c d a r:Int):Prop:=w.cell? ⟨o,0,none⟩=some (.int .i64 c)∧w.cell? ⟨o,1,none⟩=some (.int .u64 d)∧w.cell? ⟨o,2,none⟩=some (.int .i64 a)∧w.cell? ⟨o,3,none⟩=some (.int .i64 r)∧
 w.frozen? ⟨o,0,none⟩=false∧w.frozen? ⟨o,1,none⟩=false∧w.frozen? ⟨o,2,none⟩=false∧w.frozen? ⟨o,3,none⟩=false
theorem CertAt.new (w:World) (c d a r:Int):CertAt (w.alloc (.cells #[.int .i64 c,.int .u64 d,.int .i64 a,.int .i64 r] 70)) w.heap.size c d a r:=⟨(by simp[zO,zJ,zQ]),(by simp[zO,zJ,zQ]),(by simp[zO,zJ,zQ]),(by simp[zO,zJ,zQ]),by simp,by simp,by simp,by simp⟩
theorem CertAt.below {w w':World} {o:Nat} {c d a r:Int} (h:CertAt w o c d a r) (hb:Below w.heap.size w w'):CertAt w' o c d a r:=by
 obtain⟨h0,h1,h2,h3,f0,f1,f2,f3⟩:=h
 have hl:=zM _ _ h0
 exact⟨zP hb h0,zP hb h1,zP hb h2,zP hb h3,(hb.frozen (p:=⟨o,0,none⟩) hl).trans f0,(hb.frozen (p:=⟨o,1,none⟩) hl).trans f1,(hb.frozen (p:=⟨o,2,none⟩) hl).trans f2,(hb.frozen (p:=⟨o,3,none⟩) hl).trans f3⟩
theorem CertAt.put {w:World} {o:Nat} {c d a r:Int} (h:CertAt w o c d a r) (c' d' a' r':Int):CertAt ((((w.setCell ⟨o,0,none⟩ (.int .i64 c')).setCell ⟨o,1,none⟩ (.int .u64 d')).setCell ⟨o,2,none⟩ (.int .i64 a')).setCell ⟨o,3,none⟩ (.int .i64 r')) o c' d' a' r':=by
 obtain⟨h0,h1,h2,h3,f0,f1,f2,f3⟩:=h
 refine⟨?_,?_,?_,?_,by simp only[World.frozen?_setCell];exact f0,by simp only[World.frozen?_setCell];exact f1,by simp only[World.frozen?_setCell];exact f2,by simp only[World.frozen?_setCell];exact f3⟩
 ·rw[zK _ _ _ _ (by simp),zK _ _ _ _ (by simp),zK _ _ _ _ (by simp)];exact zL _ _ _ (by rw[h0];rfl)
 ·rw[zK _ _ _ _ (by simp),zK _ _ _ _ (by simp)];exact zL _ _ _ (by rw[zK _ _ _ _ (by simp),h1];rfl)
 ·rw[zK _ _ _ _ (by simp)];exact zL _ _ _ (by rw[zK _ _ _ _ (by simp),zK _ _ _ _ (by simp),h2];rfl)
 ·exact zL _ _ _ (by rw[zK _ _ _ _ (by simp),zK _ _ _ _ (by simp),zK _ _ _ _ (by simp),h3];rfl)
def CertOf (sq a:Int) (r:Nat):Prop:=(r:Int)≤4611686018427387904 / a+1∧enough sq a r=true∧∀ j,j < r→enough sq a j=false
theorem cof_ok (S:Sy) (v:Value) (q p:Option Addr) (R x:List Int) (rc xc n:Nat) (w:World) (hT:HasTab w) (hS:SysIn w v S) (hok:SyOk S) (hV:VecAt w p x) (hvo:VecOk S.f S.s S.a x) (hU:VecAt w q R) (hxl:x.length=n) (hRl:R.length=n) (hRB:Bd 144115188075855872 R)
  (hZ:dotL (lessL R (multL S x)) (lessL R (multL S x))≤21267647932558653966460912964485513216) :
  Calls Tryz.prog 42 #[v,.slice q n rc,.slice p n xc] w fun e w'=>∃ (C D:Int) (r:Nat),wv (dotL (lessL R (multL S x)) (lessL R (multL S x)))=.agg #[.int .i64 C,.int .u64 D]∧e=.returned (.tuple #[.agg #[.int .i64 C,.int .u64 D,.int .i64 S.a,.int .i64 (r:Int)],.int .i64 0])∧CertOf (dotL (lessL R (multL S x)) (lessL R (multL S x))) S.a r∧Below w.heap.size w w':=by
 have hvn:=vecOk_n hok hvo
 have HH:Hid (∀ w2 v2,HasTab w2→SysIn w2 v2 S→VecAt w2 p x→Calls Tryz.prog 21 #[v2,.slice p n xc] w2 fun e w'=>∃ N,e=.returned (.tuple #[.slice (some ⟨N,0,none⟩) n n,.int .i64 0])∧IntsAt w' N 0 (multL S x)∧w2.heap.size≤N∧Below w2.heap.size w2 w'):=zN (fun w2 v2 h1 h2 h3=>by
  have h:=cmult_ok S v2 p x xc w2 h1 h2 hok h3 hvo
  rw[←hvn,hxl] at h;exact h)
 have HS:=zN hS
 have HU:=zN hU
 have HMB:=zN (multL_bd hok hvo)
 have HRB:=zN hRB
 have HRL:=zN hRl
 have HML:Hid ((multL S x).length=n):=zN (by rw[multL_len,hxl])
 have hn1:n≤1000:=by have:=hok.nodes;omega
 have hn0:1≤n:=by have:=hok.nodes;omega
 have HA:Hid (1≤S.a∧S.a≤1000000):=zN (by have:=hok.1;unfold PrOk at this;omega)
 obtain⟨M,hM⟩:∃ M,M=multL S x:=⟨_,rfl⟩
 rw[←hM] at HH HMB HML hZ ⊢
 obtain⟨Z,hZe⟩:∃ Z,Z=lessL R M:=⟨_,rfl⟩
 have HZE:=zN hZe
 rw[←hZe] at hZ ⊢
 have HZL:Hid (Z.length=n):=zN (by rw[hZe,lessL_len (by rw[HML.out,HRL.out]),HRL.out])
 have HZB:Hid (I64L Z):=zN (fun z hz=>by
  have:=lessL_bd HRB.out HMB.out z (by rw[←hZe];exact hz);omega)
 obtain⟨sq,hsq⟩:∃ sq,sq=dotL Z Z:=⟨_,rfl⟩
 have HSQ:Hid (0≤sq∧sq≤21267647932558653966460912964485513216):=zN (by rw[hsq];exact⟨dot_nn Z,hZ⟩)
 have HSE:=zN hsq
 rw[←hsq]
 obtain⟨a,ha⟩:∃ a,a=S.a:=⟨_,rfl⟩
 have HAE:=zN ha
 rw[←ha] at HA ⊢
 obtain⟨p1,d1,p2,d2,rfl,_⟩:=hS
 rw[←ha]
 obtain⟨bq,oq,rfl,hbq,hcq⟩:=hU.cell (by rw[HRL.out];omega)
 have HCQ:=zN hcq
 clear hM hZe hsq ha hZ hok hvo hvn hxl hRl hRB hU hcq
 go_enter Tryz.func42,Tryz.ntmps42
 go_wp2_with fail
 refine (HH.out _ _ (hT.below (by repeat (first|(with_reducible first|assumption|exact zBr _ _|refine zBs ?_ (by first|omega|simp<;>omega) _|refine zBa ?_ (by first|omega|simp<;>omega) _|apply zBd)|assumption))) (by rw[HAE.out];exact HS.out.below (by repeat (first|(with_reducible first|assumption|exact zBr _ _|refine zBs ?_ (by first|omega|simp<;>omega) _|refine zBa ?_ (by first|omega|simp<;>omega) _|apply zBd)|assumption))) (hV.below (by repeat (first|(with_reducible first|assumption|exact zBr _ _|refine zBs ?_ (by first|omega|simp<;>omega) _|refine zBa ?_ (by first|omega|simp<;>omega) _|apply zBd)|assumption)))).mono ?_
 rintro e w1 ⟨Nm,rfl,hIm,hNm,hb1⟩
 have hB:Below w.heap.size w w1:=Below.trans (by repeat (first|(with_reducible first|assumption|exact zBr _ _|refine zBs ?_ (by first|omega|simp<;>omega) _|refine zBa ?_ (by first|omega|simp<;>omega) _|apply zBd)|assumption)) (hb1.mono (by simp<;>omega))
 have c2:w1.cell? ⟨w.heap.size,2,none⟩=some (.int .i64 a):=zP hb1 (by simp[zO,zJ,zQ])
 have r0:w1.cell? ⟨w.heap.size+1,0,none⟩=some (.int .i64 0):=zP hb1 (by simp[zO,zJ,zQ])
 have r1:w1.cell? ⟨w.heap.size+1,1,none⟩=some (.int .u64 0):=zP hb1 (by simp[zO,zJ,zQ])
 have r2:w1.cell? ⟨w.heap.size+1,2,none⟩=some (.int .i64 0):=zP hb1 (by simp[zO,zJ,zQ])
 have r3:w1.cell? ⟨w.heap.size+1,3,none⟩=some (.int .i64 0):=zP hb1 (by simp[zO,zJ,zQ])
 have rf:∀ k,w1.frozen? ⟨w.heap.size+1,k,none⟩=false:=fun k=>by
  rw[zFb (hb1.block _ (by simp))];simp
 have hNm0:w.heap.size+2≤Nm:=by simpa using hNm
 have hNm1:Nm < w1.heap.size:=zM _ _ (hIm 0 (by rw[HML.out];omega)).1
 have hnn:((n:Int) != (n:Int))=false:=by simp
 have hRb:Hid (beyondB R=false):=zN (beyondB_false HRB.out)
 have HIM:=zN hIm
 have HU1:=zN (HU.out.below hB)
 clear hb1 HH HS HU hT hV hIm hNm
 go_wp2_with fail
 refine (containsB_any _ R rc n _ HRL.out (HU1.out.below (by repeat (first|(with_reducible first|assumption|exact zBr _ _|refine zBs ?_ (by first|omega|simp<;>omega) _|refine zBa ?_ (by first|omega|simp<;>omega) _|apply zBd)|assumption))) (by omega)).mono ?_
 rintro e w2 ⟨rfl,hb2⟩
 rw[hRb.out]
 have hB2:Below w.heap.size w w2:=hB.trans (hb2.mono hB.size)
 have e2:=zP hb2 c2
 have s0:=zP hb2 r0
 have s1:=zP hb2 r1
 have s2:=zP hb2 r2
 have s3:=zP hb2 r3
 have hlt1:w.heap.size+1 < w1.heap.size:=by omega
 have sf:∀ k,w2.frozen? ⟨w.heap.size+1,k,none⟩=false:=fun k=>(hb2.frozen (p:=⟨w.heap.size+1,k,none⟩) hlt1).trans (rf k)
 have HIM2:=zN (HIM.out.block (hb2.block Nm hNm1))
 have HCQ2:Hid (∀ k (h:k < R.length),w2.cell? ⟨bq,oq+k,none⟩=some (.int .i64 R[k])):=zN (fun k h=>zP hB2 (HCQ.out k h))
 have HB2:=zN hB2
 have hsz2:Nm < w2.heap.size:=by have:=hb2.size;omega
 clear hb2 hB c2 r0 r1 r2 r3 rf HIM HU1 HCQ hB2 hlt1 hNm1
 go_wp2
 go_loopw [34] (fun i wr=>∃ k:Nat,k≤n∧i=.int .i64 k∧Hid (IntsAt wr Nm 0 (revTo R M k))∧w2.grownBy wr (some Nm)) (fun i _=>n-(intOf i).toNat)
 case atStart=>exact⟨0,Nat.zero_le _,rfl,zN (by simpa[revTo] using HIM2.out),⟨rfl,rfl,rfl,Nat.le_refl _,fun _ _ _=>rfl⟩⟩
 case round=>
  obtain⟨k,hk,rfl,HI,hg⟩:=hrel
  by_cases hlt:k < n
  ·have hdk:decide ((k:Int) < (n:Int))=true:=zDt (by omega)
   have hkR:k < R.length:=by rw[HRL.out];exact hlt
   have hkM:k < M.length:=by rw[HML.out];exact hlt
   have hML2:M.length=R.length:=by rw[HML.out,HRL.out]
   have hne:¬ (bq=Nm):=by omega
   have mk:=hg.cell (HCQ2.out k hkR) (by simp;exact hne)
   obtain⟨k1,k2⟩:=HI.out k (by rw[revTo_len hML2 (by omega)];exact hkR)
   rw[Nat.zero_add] at k1 k2
   rw[revTo_get hML2 hkR] at k1
   have HSU:=zN (revTo_succ hML2 hkR)
   have hb1:=HRB.out R[k] (List.getElem_mem _)
   have hb2:=HMB.out M[k] (List.getElem_mem _)
   obtain⟨u,hu⟩:∃ u,u=R[k]:=⟨_,rfl⟩
   obtain⟨m,hm⟩:∃ m,m=M[k]:=⟨_,rfl⟩
   rw[←hu] at mk HSU hb1
   rw[←hm] at k1 HSU hb2
   have hk0:(0:Int)≤(k:Int):=by omega
   have hkI:(k:Int) < (n:Int):=by omega
   clear hu hm hkR hkM hML2
   go_wp2
   refine RY.region RX.fN (fun w'=>w'.cell? ⟨Nm,k,none⟩=some (.int .i64 m)∧w'.cell? ⟨bq,oq+k,none⟩=some (.int .i64 u)) (by kernel_rfl) (by kernel_rfl) (⟨k1,mk⟩) (fun OPS HO QR hQR=>?_)
   repeat (refine zeY (fun R hR=>?_);(first|refine zbY rfl rfl (by first|exact .inl rfl|exact .inr rfl) (by simp only[zE,zF,zG,zH];rfl) (by simp only[zA,zB,zC,zD];rfl) ?_|refine zcY rfl rfl rfl (by simp only[zE,zF,zG,zH];rfl) (by simp only[zA,zB,zC,zD];rfl) ?_|(refine zdY rfl rfl rfl rfl ?_;apply zEx;apply zEx;refine⟨fun w' hS K hK=>?_,?_,?_⟩;(focus (obtain⟨hS1,hS2⟩:=hS;go_wp2;exact hK _ _ (by simp only[zl,zG,zH];first|exact RX.bneB _|rfl) rfl));(focus (simp only[zA,zB,zC,zD];rfl))));refine hR _ _ ?_;clear hR R)
   refine zeY (fun R hR=>?_)
   refine zgY (by first|rfl|(rw[HO.out];rfl)) rfl (fun K hK=>?_)
   go_wp2
   first|refine⟨(by first|exact .inl rfl|exact .inl trivial|trivial),hR _ _ (RY.wpL_nil (hQR _ _ ?_))⟩|refine hR _ _ (RY.wpL_nil (hQR _ _ ?_))|refine hQR _ _ ?_
   (try clear hR);(try clear R);clear hQR QR HO OPS
   go_wp2
   go_roundw
   case rel=>exact⟨k+1,by omega,by go_num,zN (by rw[HSU.out];have:=HI.out.set k (u-m);rwa[Nat.zero_add] at this),grown_drew (hg.trans (grownBy_setCell _ _ _ _))⟩
   case measure=>simp[intOf];omega
  ·have hdk:decide ((k:Int) < (n:Int))=false:=zDf (by omega)
   obtain rfl:k=n:=by omega
   have HZI:Hid (VecAt wr (some ⟨Nm,0,none⟩) Z):=zN (vec_of_ints (by rw[HZE.out,←revTo_end (by rw[HML.out,HRL.out]),HRL.out];exact HI.out))
   have hne1:¬ (w.heap.size=Nm):=by omega
   have hne2:¬ (w.heap.size+1=Nm):=by omega
   have g2:=hg.cell e2 (by simp;exact hne1)
   have z0:=hg.cell s0 (by simp;exact hne2)
   have z1:=hg.cell s1 (by simp;exact hne2)
   have z2:=hg.cell s2 (by simp;exact hne2)
   have z3:=hg.cell s3 (by simp;exact hne2)
   have zf:∀ k,wr.frozen? ⟨w.heap.size+1,k,none⟩=false:=fun k=>(zFb (hg.block (w.heap.size+1) (by omega) (by simp;exact hne2))).trans (sf k)
   have HBr:=zN (HB2.out.grown hg HB2.out.size (fun k hk=>by injection hk with hk;omega))
   have hsr:w.heap.size+1 < wr.heap.size:=zM _ _ z0
   clear hg HI e2 s0 s1 s2 s3 sf HCQ2 HB2 HIM2 hne1 hne2
   obtain⟨C,D,hC,hD,hS⟩:=wv_parts sq
   have HWV:=zN hS
   have hC2:C=sq / 18446744073709551616:=by rw[hC];unfold wrap64;have:=HSQ.out;omega
   have HCD:Hid (C*18446744073709551616+D=sq):=zN (by rw[hC2,hD];omega)
   have hCb:0≤C∧C≤1152921504606846976:=by have:=HSQ.out;omega
   have hDb:0≤D∧D≤18446744073709551615:=by omega
   have HCB:=zN (And.intro hCb hDb)
   clear hC hD hC2 hS hCb hDb
   have HQ:Hid (∀ w',VecAt w' (some ⟨Nm,0,none⟩) Z→Calls Tryz.prog 46 #[.slice (some ⟨Nm,0,none⟩) k k] w' fun e w''=>e=.returned (.agg #[.int .i64 C,.int .u64 D])∧Below w'.heap.size w' w''):=zN (fun w' h=>by
    have h2:=csquare_any _ Z k k w' HZL.out h (by omega) HZB.out
    rw[←HSE.out,HWV.out] at h2;exact h2)
   go_wp2
   go_cut [11] from 50 to 55 (fun s wc=>∃ o,s=.pointer (some ⟨o,0,none⟩)∧wr.heap.size≤o∧CertAt wc o C D a 0∧Below wr.heap.size wr wc)
   case first=>
    refine RX.regionF2 RX.fN (fun w'=>w'.cell? ⟨w.heap.size,2,none⟩=some (.int .i64 a)) [[0,1,2,3,4,5,6,7],[0,6,1,2,3,4,5,7]] (by kernel_rfl) (by kernel_rfl) (g2) (fun OPS HO QR hQR=>?_)
    refine List.forall_mem_cons.2 ⟨?_,List.forall_mem_cons.2 ⟨?_,fun _ h=>(by cases h)⟩⟩
    ·
     simp only[RX.pick,RX.nth,List.map_cons,List.map_nil,List.getD_cons_zero,List.getD_cons_succ]
     repeat (refine zeX (fun R hR=>?_);(first|refine zbX rfl rfl (by first|exact .inl rfl|exact .inr rfl) (by simp only[zE,zF,zG,zH];rfl) (by simp only[zA,zB,zC,zD];rfl) ?_|refine zcX rfl rfl rfl (by simp only[zE,zF,zG,zH];rfl) (by simp only[zA,zB,zC,zD];rfl) ?_|(refine zdX rfl rfl rfl rfl ?_;apply zEx;apply zEx;refine⟨fun w' hS K hK=>?_,?_,?_⟩;(focus (have hS1:=hS;go_wp2;exact hK _ _ (by simp only[zl,zG,zH];first|exact RX.bneB _|rfl) rfl));(focus (simp only[zA,zB,zC,zD];rfl))));refine hR _ _ ?_;clear hR R)
     refine zeX (fun R hR=>?_)
     refine zgX (by first|rfl|(rw[HO.out];rfl)) rfl (fun K hK=>?_)
     go_wp2_with fail
     refine (HQ.out _ (HZI.out.below (by repeat (first|(with_reducible first|assumption|exact zBr _ _|refine zBs ?_ (by first|omega|simp<;>omega) _|refine zBa ?_ (by first|omega|simp<;>omega) _|apply zBd)|assumption)))).mono ?_
     rintro e w3 ⟨rfl,hb3⟩
     replace hb3:Below wr.heap.size wr w3:=⟨hb3.os,hb3.tape,hb3.output,hb3.size,hb3.block⟩
     have m2:=zP hb3 g2
     clear g2
     refine hK _ _ ⟨m2,hR _ _ ?_⟩;clear hK K hR R
     repeat (refine zeX (fun R hR=>?_);(first|refine zbX rfl rfl (by first|exact .inl rfl|exact .inr rfl) (by simp only[zE,zF,zG,zH];rfl) (by simp only[zA,zB,zC,zD];rfl) ?_|refine zcX rfl rfl rfl (by simp only[zE,zF,zG,zH];rfl) (by simp only[zA,zB,zC,zD];rfl) ?_|(refine zdX rfl rfl rfl rfl ?_;apply zEx;apply zEx;refine⟨fun w' hS K hK=>?_,?_,?_⟩;(focus (have hS1:=hS;go_wp2;exact hK _ _ (by simp only[zl,zG,zH];first|exact RX.bneB _|rfl) rfl));(focus (simp only[zA,zB,zC,zD];rfl))));refine hR _ _ ?_;clear hR R)
     refine zeX (fun R hR=>?_)
     refine zgX (by first|rfl|(rw[HO.out];rfl)) rfl (fun K hK=>?_)
     go_wp2
     refine⟨(by (try have hLt:=zM _ _ m2);(try simp only at hLt);(repeat first|rw[zO]|rw[zK _ _ _ _ (by first|(simp<;>omega)|omega)]|rw[zJ,if_neg (by first|(simp<;>omega)|omega)]);first|exact m2|(rw[zJ,if_pos (by first|(simp;done)|omega)];exact m2)),hR _ _ ?_⟩;clear hR R
     repeat (refine zeX (fun R hR=>?_);(first|refine zbX rfl rfl (by first|exact .inl rfl|exact .inr rfl) (by simp only[zE,zF,zG,zH];rfl) (by simp only[zA,zB,zC,zD];rfl) ?_|refine zcX rfl rfl rfl (by simp only[zE,zF,zG,zH];rfl) (by simp only[zA,zB,zC,zD];rfl) ?_|(refine zdX rfl rfl rfl rfl ?_;apply zEx;apply zEx;refine⟨fun w' hS K hK=>?_,?_,?_⟩;(focus (have hS1:=hS;go_wp2;exact hK _ _ (by simp only[zl,zG,zH];first|exact RX.bneB _|rfl) rfl));(focus (simp only[zA,zB,zC,zD];rfl))));refine hR _ _ ?_;clear hR R)
     refine zeX (fun R hR=>?_)
     refine zgX (by first|rfl|(rw[HO.out];rfl)) rfl (fun K hK=>?_)
     go_wp2
     refine⟨(by (try have hLt:=zM _ _ m2);(try simp only at hLt);(repeat first|rw[zO]|rw[zK _ _ _ _ (by first|(simp<;>omega)|omega)]|rw[zJ,if_neg (by first|(simp<;>omega)|omega)]);first|exact m2|(rw[zJ,if_pos (by first|(simp;done)|omega)];exact m2)),hR _ _ ?_⟩;clear hR R
     repeat (refine zeX (fun R hR=>?_);(first|refine zbX rfl rfl (by first|exact .inl rfl|exact .inr rfl) (by simp only[zE,zF,zG,zH];rfl) (by simp only[zA,zB,zC,zD];rfl) ?_|refine zcX rfl rfl rfl (by simp only[zE,zF,zG,zH];rfl) (by simp only[zA,zB,zC,zD];rfl) ?_|(refine zdX rfl rfl rfl rfl ?_;apply zEx;apply zEx;refine⟨fun w' hS K hK=>?_,?_,?_⟩;(focus (have hS1:=hS;go_wp2;exact hK _ _ (by simp only[zl,zG,zH];first|exact RX.bneB _|rfl) rfl));(focus (simp only[zA,zB,zC,zD];rfl))));refine hR _ _ ?_;clear hR R)
     refine RX.wpL_nil (hQR _ _ ?_);clear hQR QR HO OPS
     have HPA:=zN (CertAt.new w3 C D a 0)
     have HBB:Hid (Below wr.heap.size wr (w3.alloc (.cells #[.int .i64 C,.int .u64 D,.int .i64 a,.int .i64 0] 70))):=zN (hb3.alloc hb3.size _)
     have hs3:=hb3.size
     clear hb3
     go_wp2_with fail
     go_meet
     case rel=>exact⟨_,rfl,hs3,HPA.out,HBB.out⟩
    ·
     simp only[RX.pick,RX.nth,List.map_cons,List.map_nil,List.getD_cons_zero,List.getD_cons_succ]
     repeat (refine zeX (fun R hR=>?_);(first|refine zbX rfl rfl (by first|exact .inl rfl|exact .inr rfl) (by simp only[zE,zF,zG,zH];rfl) (by simp only[zA,zB,zC,zD];rfl) ?_|refine zcX rfl rfl rfl (by simp only[zE,zF,zG,zH];rfl) (by simp only[zA,zB,zC,zD];rfl) ?_|(refine zdX rfl rfl rfl rfl ?_;apply zEx;apply zEx;refine⟨fun w' hS K hK=>?_,?_,?_⟩;(focus (have hS1:=hS;go_wp2;exact hK _ _ (by simp only[zl,zG,zH];first|exact RX.bneB _|rfl) rfl));(focus (simp only[zA,zB,zC,zD];rfl))));refine hR _ _ ?_;clear hR R)
     refine zeX (fun R hR=>?_)
     refine zgX (by first|rfl|(rw[HO.out];rfl)) rfl (fun K hK=>?_)
     go_wp2
     refine⟨(by (try have hLt:=zM _ _ g2);(try simp only at hLt);(repeat first|rw[zO]|rw[zK _ _ _ _ (by first|(simp<;>omega)|omega)]|rw[zJ,if_neg (by first|(simp<;>omega)|omega)]);first|exact g2|(rw[zJ,if_pos (by first|(simp;done)|omega)];exact g2)),hR _ _ ?_⟩;clear hR R
     repeat (refine zeX (fun R hR=>?_);(first|refine zbX rfl rfl (by first|exact .inl rfl|exact .inr rfl) (by simp only[zE,zF,zG,zH];rfl) (by simp only[zA,zB,zC,zD];rfl) ?_|refine zcX rfl rfl rfl (by simp only[zE,zF,zG,zH];rfl) (by simp only[zA,zB,zC,zD];rfl) ?_|(refine zdX rfl rfl rfl rfl ?_;apply zEx;apply zEx;refine⟨fun w' hS K hK=>?_,?_,?_⟩;(focus (have hS1:=hS;go_wp2;exact hK _ _ (by simp only[zl,zG,zH];first|exact RX.bneB _|rfl) rfl));(focus (simp only[zA,zB,zC,zD];rfl))));refine hR _ _ ?_;clear hR R)
     refine zeX (fun R hR=>?_)
     refine zgX (by first|rfl|(rw[HO.out];rfl)) rfl (fun K hK=>?_)
     go_wp2_with fail
     refine (HQ.out _ (HZI.out.below (by repeat (first|(with_reducible first|assumption|exact zBr _ _|refine zBs ?_ (by first|omega|simp<;>omega) _|refine zBa ?_ (by first|omega|simp<;>omega) _|apply zBd)|assumption)))).mono ?_
     rintro e w3 ⟨rfl,hb3⟩
     replace hb3:Below (wr.alloc (.cells #[.int .i64 0,.int .u64 0,.int .i64 0,.int .i64 0] 70)).heap.size (wr.alloc (.cells #[.int .i64 0,.int .u64 0,.int .i64 0,.int .i64 0] 70)) w3:=⟨hb3.os,hb3.tape,hb3.output,hb3.size,hb3.block⟩
     have hba:Below wr.heap.size wr (wr.alloc (.cells #[.int .i64 0,.int .u64 0,.int .i64 0,.int .i64 0] 70)):=(zBr wr.heap.size wr).alloc (Nat.le_refl _) _
     have hPN:CertAt w3 wr.heap.size 0 0 0 0:=(CertAt.new wr 0 0 0 0).below hb3
     have hbb:Below wr.heap.size wr w3:=hba.trans (hb3.mono hba.size)
     have m2:=zP hbb g2
     have HPN:=zN hPN
     have HBB:=zN hbb
     obtain⟨r0,r1,r2,r3,s0,s1,s2,s3⟩:=hPN
     clear hba hb3 hbb g2
     refine hK _ _ ⟨m2,hR _ _ ?_⟩;clear hK K hR R
     repeat (refine zeX (fun R hR=>?_);(first|refine zbX rfl rfl (by first|exact .inl rfl|exact .inr rfl) (by simp only[zE,zF,zG,zH];rfl) (by simp only[zA,zB,zC,zD];rfl) ?_|refine zcX rfl rfl rfl (by simp only[zE,zF,zG,zH];rfl) (by simp only[zA,zB,zC,zD];rfl) ?_|(refine zdX rfl rfl rfl rfl ?_;apply zEx;apply zEx;refine⟨fun w' hS K hK=>?_,?_,?_⟩;(focus (have hS1:=hS;go_wp2;exact hK _ _ (by simp only[zl,zG,zH];first|exact RX.bneB _|rfl) rfl));(focus (simp only[zA,zB,zC,zD];rfl))));refine hR _ _ ?_;clear hR R)
     refine zeX (fun R hR=>?_)
     refine zgX (by first|rfl|(rw[HO.out];rfl)) rfl (fun K hK=>?_)
     go_wp2
     refine⟨(by (try have hLt:=zM _ _ m2);(try simp only at hLt);(repeat first|rw[zO]|rw[zK _ _ _ _ (by first|(simp<;>omega)|omega)]|rw[zJ,if_neg (by first|(simp<;>omega)|omega)]);first|exact m2|(rw[zJ,if_pos (by first|(simp;done)|omega)];exact m2)),hR _ _ ?_⟩;clear hR R
     repeat (refine zeX (fun R hR=>?_);(first|refine zbX rfl rfl (by first|exact .inl rfl|exact .inr rfl) (by simp only[zE,zF,zG,zH];rfl) (by simp only[zA,zB,zC,zD];rfl) ?_|refine zcX rfl rfl rfl (by simp only[zE,zF,zG,zH];rfl) (by simp only[zA,zB,zC,zD];rfl) ?_|(refine zdX rfl rfl rfl rfl ?_;apply zEx;apply zEx;refine⟨fun w' hS K hK=>?_,?_,?_⟩;(focus (have hS1:=hS;go_wp2;exact hK _ _ (by simp only[zl,zG,zH];first|exact RX.bneB _|rfl) rfl));(focus (simp only[zA,zB,zC,zD];rfl))));refine hR _ _ ?_;clear hR R)
     refine RX.wpL_nil (hQR _ _ ?_);clear hQR QR HO OPS
     have HPA:=zN (HPN.out.put C D a 0)
     have HBF:Hid (Below wr.heap.size wr ((((w3.setCell ⟨wr.heap.size,0,none⟩ (.int .i64 C)).setCell ⟨wr.heap.size,1,none⟩ (.int .u64 D)).setCell ⟨wr.heap.size,2,none⟩ (.int .i64 a)).setCell ⟨wr.heap.size,3,none⟩ (.int .i64 0))):=
      zN ((((HBB.out.setCell (Nat.le_refl _) _).setCell (Nat.le_refl _) _).setCell (Nat.le_refl _) _).setCell (Nat.le_refl _) _)
     go_wp2_with fail
     go_meet
     case rel=>exact⟨_,rfl,Nat.le_refl _,HPA.out,HBF.out⟩
   case rest=>
    obtain⟨o,rfl,ho,hPA,hbc⟩:=hcut
    have v0:=zP hbc z0
    have v1:=zP hbc z1
    have v2:=zP hbc z2
    have v3:=zP hbc z3
    have vf:∀ k,wc.frozen? ⟨w.heap.size+1,k,none⟩=false:=fun k=>(hbc.frozen (p:=⟨w.heap.size+1,k,none⟩) hsr).trans (zf k)
    have HB3:=zN (HBr.out.trans (hbc.mono HBr.out.size))
    have hwo:w.heap.size+1 < o:=by omega
    have HPA:=zN hPA
    obtain⟨r0,r1,r2,r3,s0,s1,s2,s3⟩:=hPA
    clear hbc z0 z1 z2 z3 zf g2
    go_wp2_with fail
    refine (radius_ok C D a _ HCB.out.2.1 HCB.out.2.2 HCB.out.1.1 (by have:=HCD.out;have:=HSQ.out;omega) HA.out.1 HA.out.2).mono ?_
    rintro e w4 ⟨r,rfl,hr1,hr2,hr3,hb5⟩
    have HB5:=zN (HB3.out.trans (hb5.mono HB3.out.size))
    have HPA2:=HPA.out.below hb5
    have hwl:w.heap.size+1 < wc.heap.size:=zM _ _ v0
    have x0:=zP hb5 v0
    have x1:=zP hb5 v1
    have x2:=zP hb5 v2
    have x3:=zP hb5 v3
    have xf:∀ k,w4.frozen? ⟨w.heap.size+1,k,none⟩=false:=fun k=>(hb5.frozen (p:=⟨w.heap.size+1,k,none⟩) hwl).trans (vf k)
    have xf0:=xf 0
    have xf1:=xf 1
    have xf2:=xf 2
    have xf3:=xf 3
    have HR:=zN (And.intro hr1 (And.intro hr2 hr3))
    clear hb5 hr1 hr2 hr3 v0 v1 v2 v3 vf r0 r1 r2 r3 s0 s1 s2 s3 xf HPA hwl
    obtain⟨r0,r1,r2,r3,s0,s1,s2,s3⟩:=HPA2
    have hoi:¬ (o=w.heap.size+1):=by omega
    have hio:¬ (w.heap.size+1=o):=by omega
    go_wp2
    refine absW (F:=fun w'=>w'.cell? ⟨w.heap.size+1,0,none⟩=some (.int .i64 C)∧w'.cell? ⟨w.heap.size+1,1,none⟩=some (.int .u64 D)∧w'.cell? ⟨w.heap.size+1,2,none⟩=some (.int .i64 a)∧w'.cell? ⟨w.heap.size+1,3,none⟩=some (.int .i64 r)∧Below w.heap.size w w') ⟨(by (repeat rw[zK _ _ _ _ (by first|(simp;done)|(simp;omega))]);exact zL _ _ _ (by (repeat rw[zK _ _ _ _ (by first|(simp;done)|(simp;omega))]);rw[x0];rfl)),(by (repeat rw[zK _ _ _ _ (by first|(simp;done)|(simp;omega))]);exact zL _ _ _ (by (repeat rw[zK _ _ _ _ (by first|(simp;done)|(simp;omega))]);rw[x1];rfl)),(by (repeat rw[zK _ _ _ _ (by first|(simp;done)|(simp;omega))]);exact zL _ _ _ (by (repeat rw[zK _ _ _ _ (by first|(simp;done)|(simp;omega))]);rw[x2];rfl)),(by (repeat rw[zK _ _ _ _ (by first|(simp;done)|(simp;omega))]);exact zL _ _ _ (by (repeat rw[zK _ _ _ _ (by first|(simp;done)|(simp;omega))]);rw[x3];rfl)),((((HB5.out.setCell (by simp<;>omega) _).setCell (by simp) _).setCell (by simp) _).setCell (by simp) _).setCell (by simp) _⟩ ?_
    rintro W4 ⟨t0,t1,t2,t3,hBB⟩
    refine bodyPost_ret (v:=.tuple #[.agg #[.int .i64 C,.int .u64 D,.int .i64 a,.int .i64 r],.int .i64 0]) ?_ rfl ⟨C,D,r,HWV.out,rfl,⟨HR.out.1,by rw[←HCD.out];exact HR.out.2.1,fun j hj=>by rw[←HCD.out];exact HR.out.2.2 j hj⟩,hBB⟩
    simp[results,Tryz.results42,go_sem,t0,t1,t2,t3]
theorem CertOf.uniq {sq a:Int} {r s:Nat} (h:CertOf sq a r) (g:CertOf sq a s):r=s:=by
 rcases Nat.lt_trichotomy r s with h1|h1|h1
 ·have:=g.2.2 r h1;rw[h.2.1] at this;cases this
 ·exact h1
 ·have:=h.2.2 s h1;rw[g.2.1] at this;cases this
theorem awake26_any (w:World):Calls Tryz.prog 35 #[] w fun e w'=>e=.returned (.bool true)∧Below w.heap.size w w':=by
 have HR:Hid (∀ w',Calls Tryz.prog 40 #[wv 10,.int .i64 3] w' fun e w''=>e=.returned (.tuple #[.int .i64 2,.int .i64 0])∧Below w'.heap.size w' w''):=zN (fun w'=>by
  have e:wv 10=.agg #[.int .i64 0,.int .u64 10]:=by unfold wv wrap64;rfl
  rw[e]
  refine (radius_ok 0 10 3 w' (by omega) (by omega) (by omega) (by omega) (by omega) (by omega)).mono ?_
  rintro e w'' ⟨r,rfl,h1,h2,h3,hb⟩
  have h4:r=2:=by
   unfold enough at h2 h3
   rw[decide_eq_true_eq] at h2
   rcases Nat.lt_trichotomy r 2 with h|h|h
   ·have:r=0∨r=1:=by omega
    rcases this with rfl|rfl<;>simp at h2
   ·exact h
   ·have:=h3 2 h;simp at this
  subst h4
  exact⟨rfl,hb⟩)
 go_enter Tryz.func35,Tryz.ntmps35
 go_wp2_with fail
 refine (wide_any 10 (by omega) (by omega) _).mono ?_
 rintro e w1 ⟨rfl,hb1⟩
 obtain⟨C,D,q1,q2,hS⟩:=wv_parts 10
 clear q1 q2
 have HS:=zN hS
 rw[hS]
 clear hS
 go_wp2_with fail
 rw[←HS.out]
 refine (HR.out _).mono ?_
 rintro e w2 ⟨rfl,hb2⟩
 have hB:=hb1.trans (hb2.mono hb1.size)
 clear hb1 hb2
 go_wp2
 go_ret
 exact⟨rfl,hB⟩
def wTo (x y:List Int) (k:Nat):Int:=dotL ((subL x y).take k) ((subL x y).take k)
theorem wTo_succ {x y:List Int} (h:x.length=y.length) {k:Nat} (hk:k < x.length):wTo x y (k+1)=wTo x y k+(x[k]-y[k]'(by omega))*(x[k]-y[k]'(by omega)):=by
 unfold wTo
 rw[dotL_take rfl (by rw[subL_len h];exact hk)]
 simp[subL]
theorem dot_append:∀ u v:List Int,dotL (u ++ v) (u ++ v)=dotL u u+dotL v v
 |[],v=>by simp[dotL]
 |a :: u,v=>by
  have ih:=dot_append u v
  have e1:dotL (a :: u ++ v) (a :: u ++ v)=a*a+dotL (u ++ v) (u ++ v):=rfl
  have e2:dotL (a :: u) (a :: u)=a*a+dotL u u:=rfl
  rw[e1,e2,ih];omega
theorem wTo_le (x y:List Int) (k:Nat):0≤wTo x y k∧wTo x y k≤dotL (subL x y) (subL x y):=by
 have h1:=dot_append ((subL x y).take k) ((subL x y).drop k)
 rw[List.take_append_drop] at h1
 have h2:=dot_nn ((subL x y).drop k)
 have h3:=dot_nn ((subL x y).take k)
 unfold wTo;omega
theorem wTo_end {x y:List Int} (h:x.length=y.length):wTo x y x.length=dotL (subL x y) (subL x y):=by
 unfold wTo
 rw[List.take_of_length_le (by rw[subL_len h];omega)]
theorem compare_wv2 (p q:Int) (v u:Value) (w:World) (hv:v=wv p) (hu:u=wv q) (hp:-170141183460469231731687303715884105728≤p) (hp':p < 170141183460469231731687303715884105728) (hq:-170141183460469231731687303715884105728≤q) (hq':q < 170141183460469231731687303715884105728) :
  Calls Tryz.prog 86 #[v,u] w fun e w'=>e=.returned (.int .i64 (sgn p q))∧Below w.heap.size w w':=by
 subst hv hu;exact compare_wv p q w hp hp' hq hq'
theorem cwithin_ok (C D a r:Int) (p q:Option Addr) (x y:List Int) (xc yc n:Nat) (w:World) (hx:x.length=n) (hy:y.length=n) (hV:VecAt w p x) (hU:VecAt w q y) (hn:n≤1000) (hxb:Bd 1099511627776 x) (hyb:Bd 1099511627776 y) (hr0:0≤r) (hr1:r≤4611686018427387905) :
  Calls Tryz.prog 48 #[.agg #[.int .i64 C,.int .u64 D,.int .i64 a,.int .i64 r],.slice p n xc,.slice q n yc] w fun e w'=>e=.returned (.bool (decide (dotL (subL x y) (subL x y)≤r*r)))∧Below w.heap.size w w':=by
 have HXL:=zN (And.intro hx hy)
 have HXB:=zN (And.intro hxb hyb)
 have HV:=zN (And.intro hV hU)
 have HSTEP:Hid (∀ k (h:k < x.length) (h2:k < y.length),wTo x y (k+1)=wTo x y k+(x[k]-y[k])*(x[k]-y[k])):=zN (fun k h h2=>wTo_succ (by omega) h)
 have HLE:=zN (wTo_le x y)
 have HEND:Hid (wTo x y n=dotL (subL x y) (subL x y)):=zN (by rw[←hx];exact wTo_end (by omega))
 have HZ:Hid (wTo x y 0=0):=zN (by simp[wTo,dotL])
 obtain⟨R2,hR2⟩:∃ R2,R2=r*r:=⟨_,rfl⟩
 have HR2:Hid (0≤R2∧R2≤21267647932558653975684298701340262016):=zN (by
  have h1:=Int.mul_nonneg hr0 hr0
  have h2:=Int.mul_le_mul hr1 hr1 hr0 (by omega)
  rw[hR2];omega)
 have HRE:=zN hR2
 rw[←hR2]
 clear hx hy hxb hyb hV hU hR2
 have hnn:((n:Int) != (n:Int))=false:=by simp
 go_enter Tryz.func48,Tryz.ntmps48
 go_wp2_with fail
 refine (product_wv _ _ _ (by omega) (by omega) (by omega) (by omega)).mono ?_
 rintro e w1 ⟨rfl,hb1⟩
 have hB:Below w.heap.size w w1:=Below.trans (by repeat (first|(with_reducible first|assumption|exact zBr _ _|refine zBs ?_ (by first|omega|simp<;>omega) _|refine zBa ?_ (by first|omega|simp<;>omega) _|apply zBd)|assumption)) (hb1.mono (by simp<;>omega))
 rw[←HRE.out]
 obtain⟨C0,D0,q1,q2,hS0⟩:=wv_parts R2
 clear q1 q2
 rw[hS0]
 have HS0:=zN hS0
 clear hS0 hb1
 have hHZ:Hid (wv (wTo x y 0)=.agg #[.int .i64 0,.int .u64 0]):=zN (by rw[HZ.out];exact wv_zero.symm)
 obtain⟨N,hN⟩:∃ N,N=w1.heap.size:=⟨_,rfl⟩
 go_wp2
 refine absW (F:=fun w'=>w'.cell? ⟨w1.heap.size,0,none⟩=some (.int .i64 C0)∧w'.cell? ⟨w1.heap.size,1,none⟩=some (.int .u64 D0)∧w'.cell? ⟨w1.heap.size+1,0,none⟩=some (.int .i64 0)∧w'.cell? ⟨w1.heap.size+1,1,none⟩=some (.int .u64 0)∧w'.frozen? ⟨w1.heap.size+1,0,none⟩=false∧w'.frozen? ⟨w1.heap.size+1,1,none⟩=false∧Below w1.heap.size w1 w') ⟨(by simp[zO,zJ,zQ]),(by simp[zO,zJ,zQ]),(by simp[zO,zJ,zQ]),(by simp[zO,zJ,zQ]),by simp,by simp,(by repeat (first|(with_reducible first|assumption|exact zBr _ _|refine zBs ?_ (by first|omega|simp<;>omega) _|refine zBa ?_ (by first|omega|simp<;>omega) _|apply zBd)|assumption))⟩ ?_
 rintro W4 ⟨m0,m1,s0,s1,sf0,sf1,hb4⟩
 rw[←hN] at m0 m1 s0 s1 sf0 sf1 ⊢
 have hwN:w.heap.size≤N:=by have:=hB.size;omega
 have HB4:=zN (hB.trans (hb4.mono hB.size))
 clear hB hb4 hN
 go_loopw [23] (fun i wr=>∃ (k:Nat) (C1 D1:Int),k≤n∧i=.int .i64 k∧Hid (wv (wTo x y k)=.agg #[.int .i64 C1,.int .u64 D1])∧Hid (wTo x y k≤R2)∧wr.cell? ⟨N,0,none⟩=some (.int .i64 C0)∧wr.cell? ⟨N,1,none⟩=some (.int .u64 D0)∧wr.cell? ⟨N+1,0,none⟩=some (.int .i64 C1)∧wr.cell? ⟨N+1,1,none⟩=some (.int .u64 D1)∧wr.frozen? ⟨N+1,0,none⟩=false∧wr.frozen? ⟨N+1,1,none⟩=false∧Below w.heap.size w wr) (fun i _=>n-(intOf i).toNat)
 case atStart=>exact⟨0,0,0,Nat.zero_le _,rfl,hHZ,zN (by rw[HZ.out];exact HR2.out.1),m0,m1,s0,s1,sf0,sf1,HB4.out⟩
 case round=>
  clear m0 m1 s0 s1 sf0 sf1
  obtain⟨k,C1,D1,hk,rfl,HW,HWR,m0,m1,s0,s1,sf0,sf1,hbr⟩:=hrel
  by_cases hlt:k < n
  ·have hdk:decide ((k:Int) < (n:Int))=true:=zDt (by omega)
   have hkx:k < x.length:=by rw[HXL.out.1];exact hlt
   have hky:k < y.length:=by rw[HXL.out.2];exact hlt
   obtain⟨b1,o1,rfl,hbl,hcell⟩:=HV.out.1.cell (by omega)
   obtain⟨b2,o2,rfl,hcl,hcell2⟩:=HV.out.2.cell (by omega)
   have ck:=zP hbr (hcell k hkx)
   have dk:=zP hbr (hcell2 k hky)
   have hb1:=HXB.out.1 x[k] (List.getElem_mem _)
   have hb2:=HXB.out.2 y[k] (List.getElem_mem _)
   have HST:=zN (HSTEP.out k hkx hky)
   obtain⟨a1,ha1⟩:∃ a1,a1=x[k]:=⟨_,rfl⟩
   obtain⟨a2,ha2⟩:∃ a2,a2=y[k]:=⟨_,rfl⟩
   rw[←ha1] at ck hb1 HST
   rw[←ha2] at dk hb2 HST
   have hk0:(0:Int)≤(k:Int):=by omega
   have hkI:(k:Int) < (n:Int):=by omega
   have HLT:=zN (And.intro hkx hky)
   obtain⟨bb,hq1,hq2⟩:∃ bb,decide (a1-a2 < 0)=bb∧decide (a1 < a2)=bb:=⟨decide (a1 < a2),by rw[decide_eq_decide];omega,rfl⟩
   have HLK:=zN (And.intro (HLE.out k) (HLE.out (k+1)))
   obtain⟨d,hd⟩:∃ d,d=a1-a2:=⟨_,rfl⟩
   rw[←hd] at HST
   have hdb:-2199023255552≤d∧d≤2199023255552:=by omega
   clear ha1 ha2 hcell hcell2 hkx hky
   go_wp2
   refine RX.region RX.fN (fun w'=>w'=_) (by kernel_rfl) (by kernel_rfl) rfl (fun OPS HO QR hQR=>?_)
   repeat (refine zeX (fun R hR=>?_);(first|refine zbX rfl rfl (by first|exact .inl rfl|exact .inr rfl) (by simp only[zE,zF,zG,zH];rfl) (by simp only[zA,zB,zC,zD];rfl) ?_|refine zcX rfl rfl rfl (by simp only[zE,zF,zG,zH];rfl) (by simp only[zA,zB,zC,zD];rfl) ?_|(refine zdX rfl rfl rfl rfl ?_;apply zEx;apply zEx;refine⟨fun w' hS K hK=>?_,?_,?_⟩;(focus (subst hS;go_wp2;exact hK _ _ (by simp only[zl,zG,zH];first|exact zf (by omega)|exact zg (by omega)|exact zh (by omega)|exact zi (by omega)|exact zj (by omega)|exact zk (by omega)|exact RX.bneB _|rfl) rfl));(focus (simp only[zA,zB,zC,zD];rfl))));refine hR _ _ ?_;clear hR R)
   refine RX.wpL_nil (hQR _ _ rfl ?_);clear hQR QR HO OPS
   go_wp2
   refine RX.region RX.fN (fun w'=>w'=_) (by kernel_rfl) (by kernel_rfl) rfl (fun OPS HO QR hQR=>?_)
   repeat (refine zeX (fun R hR=>?_);(first|refine zbX rfl rfl (by first|exact .inl rfl|exact .inr rfl) (by simp only[zE,zF,zG,zH];rfl) (by simp only[zA,zB,zC,zD];rfl) ?_|refine zcX rfl rfl rfl (by simp only[zE,zF,zG,zH];rfl) (by simp only[zA,zB,zC,zD];rfl) ?_|(refine zdX rfl rfl rfl rfl ?_;apply zEx;apply zEx;refine⟨fun w' hS K hK=>?_,?_,?_⟩;(focus (subst hS;go_wp2;exact hK _ _ (by simp only[zl,zG,zH];first|exact zf (by omega)|exact zg (by omega)|exact zh (by omega)|exact zi (by omega)|exact zj (by omega)|exact zk (by omega)|exact RX.bneB _|rfl) rfl));(focus (simp only[zA,zB,zC,zD];rfl))));refine hR _ _ ?_;clear hR R)
   refine RX.wpL_nil (hQR _ _ rfl ?_);clear hQR QR HO OPS
   go_wp2
   rw[←hd]
   clear hq1 hq2 hd
   have HBR:=zN hbr.drew.drew
   have y0:wr.drew.drew.cell? ⟨N+1,0,none⟩=some (.int .i64 C1):=(by (try have hLt:=zM _ _ s0);(try simp only at hLt);(repeat first|rw[zO]|rw[zK _ _ _ _ (by first|(simp<;>omega)|omega)]|rw[zJ,if_neg (by first|(simp<;>omega)|omega)]);first|exact s0|(rw[zJ,if_pos (by first|(simp;done)|omega)];exact s0))
   have y1:wr.drew.drew.cell? ⟨N+1,1,none⟩=some (.int .u64 D1):=(by (try have hLt:=zM _ _ s1);(try simp only at hLt);(repeat first|rw[zO]|rw[zK _ _ _ _ (by first|(simp<;>omega)|omega)]|rw[zJ,if_neg (by first|(simp<;>omega)|omega)]);first|exact s1|(rw[zJ,if_pos (by first|(simp;done)|omega)];exact s1))
   have x0:wr.drew.drew.cell? ⟨N,0,none⟩=some (.int .i64 C0):=(by (try have hLt:=zM _ _ m0);(try simp only at hLt);(repeat first|rw[zO]|rw[zK _ _ _ _ (by first|(simp<;>omega)|omega)]|rw[zJ,if_neg (by first|(simp<;>omega)|omega)]);first|exact m0|(rw[zJ,if_pos (by first|(simp;done)|omega)];exact m0))
   have x1:wr.drew.drew.cell? ⟨N,1,none⟩=some (.int .u64 D0):=(by (try have hLt:=zM _ _ m1);(try simp only at hLt);(repeat first|rw[zO]|rw[zK _ _ _ _ (by first|(simp<;>omega)|omega)]|rw[zJ,if_neg (by first|(simp<;>omega)|omega)]);first|exact m1|(rw[zJ,if_pos (by first|(simp;done)|omega)];exact m1))
   have yf0:wr.drew.drew.frozen? ⟨N+1,0,none⟩=false:=sf0
   have yf1:wr.drew.drew.frozen? ⟨N+1,1,none⟩=false:=sf1
   clear s0 s1 m0 m1 sf0 sf1 ck dk hbr
   generalize wr.drew.drew=V at *
   clear hk0 hkI
   refine RY.region RX.fN (fun w'=>w'.cell? ⟨N+1,0,none⟩=some (.int .i64 C1)∧w'.cell? ⟨N+1,1,none⟩=some (.int .u64 D1)) (by kernel_rfl) (by kernel_rfl) (⟨y0,y1⟩) (fun OPS HO QR hQR=>?_)
   repeat (refine zeY (fun R hR=>?_);(first|refine zbY rfl rfl (by first|exact .inl rfl|exact .inr rfl) (by simp only[zE,zF,zG,zH];rfl) (by simp only[zA,zB,zC,zD];rfl) ?_|refine zcY rfl rfl rfl (by simp only[zE,zF,zG,zH];rfl) (by simp only[zA,zB,zC,zD];rfl) ?_|(refine zdY rfl rfl rfl rfl ?_;apply zEx;apply zEx;refine⟨fun w' hS K hK=>?_,?_,?_⟩;(focus (obtain⟨hS1,hS2⟩:=hS;go_wp2;exact hK _ _ (by simp only[zl,zG,zH];first|exact zf (by omega)|exact zg (by omega)|exact zh (by omega)|exact zi (by omega)|exact zj (by omega)|exact zk (by omega)|exact RX.bneB _|rfl) rfl));(focus (simp only[zA,zB,zC,zD];rfl))));refine hR _ _ ?_;clear hR R)
   refine zeY (fun R hR=>?_)
   refine zgY (by first|rfl|(rw[HO.out];rfl)) rfl (fun K hK=>?_)
   go_wp2_with fail
   refine (product_wv d d _ (by omega) (by omega) (by omega) (by omega)).mono ?_
   rintro e w7 ⟨rfl,hb8⟩
   replace hb8:Below V.heap.size V w7:=⟨hb8.os,hb8.tape,hb8.output,hb8.size,hb8.block⟩
   have hNl:N+1 < V.heap.size:=zM _ _ y0
   have n0:=zP hb8 y0
   have n1:=zP hb8 y1
   have p0:=zP hb8 x0
   have p1:=zP hb8 x1
   have nf0:w7.frozen? ⟨N+1,0,none⟩=false:=(hb8.frozen (p:=⟨N+1,0,none⟩) hNl).trans yf0
   have nf1:w7.frozen? ⟨N+1,1,none⟩=false:=(hb8.frozen (p:=⟨N+1,1,none⟩) hNl).trans yf1
   have HB8:=zN (HBR.out.trans (hb8.mono HBR.out.size))
   have hNl7:N+1 < w7.heap.size:=zM _ _ n0
   clear hb8 y0 y1 x0 x1 yf0 yf1 hNl HBR
   refine hK _ _ ⟨.inr (⟨n0,n1⟩),hR _ _ ?_⟩;clear hK K hR R
   repeat (refine zeY (fun R hR=>?_);(first|refine zbY rfl rfl (by first|exact .inl rfl|exact .inr rfl) (by simp only[zE,zF,zG,zH];rfl) (by simp only[zA,zB,zC,zD];rfl) ?_|refine zcY rfl rfl rfl (by simp only[zE,zF,zG,zH];rfl) (by simp only[zA,zB,zC,zD];rfl) ?_|(refine zdY rfl rfl rfl rfl ?_;apply zEx;apply zEx;refine⟨fun w' hS K hK=>?_,?_,?_⟩;(focus (obtain⟨hS1,hS2⟩:=hS;go_wp2;exact hK _ _ (by simp only[zl,zG,zH];first|exact zf (by omega)|exact zg (by omega)|exact zh (by omega)|exact zi (by omega)|exact zj (by omega)|exact zk (by omega)|exact RX.bneB _|rfl) rfl));(focus (simp only[zA,zB,zC,zD];rfl))));refine hR _ _ ?_;clear hR R)
   refine zeY (fun R hR=>?_)
   refine zgY (by first|rfl|(rw[HO.out];rfl)) rfl (fun K hK=>?_)
   go_wp2_with fail
   refine (add_at _ _ (wTo x y k) (d*d) HW.out.symm rfl _).mono ?_
   rintro e w8 ⟨rfl,hb9⟩
   rw[←HST.out]
   obtain⟨C2,D2,q1,q2,hS2⟩:=wv_parts (wTo x y (k+1))
   clear q1 q2
   rw[hS2]
   have HS2:=zN hS2
   clear hS2
   replace hb9:Below w7.heap.size w7 w8:=⟨hb9.os,hb9.tape,hb9.output,hb9.size,hb9.block⟩
   have y0:=zP hb9 n0
   have y1:=zP hb9 n1
   have x0:=zP hb9 p0
   have x1:=zP hb9 p1
   have yf0:w8.frozen? ⟨N+1,0,none⟩=false:=(hb9.frozen (p:=⟨N+1,0,none⟩) hNl7).trans nf0
   have yf1:w8.frozen? ⟨N+1,1,none⟩=false:=(hb9.frozen (p:=⟨N+1,1,none⟩) hNl7).trans nf1
   have HB9:=zN (HB8.out.trans (hb9.mono HB8.out.size))
   clear hb9 n0 n1 p0 p1 nf0 nf1 HB8 hNl7
   refine hK _ _ ⟨.inr (⟨y0,y1⟩),hR _ _ ?_⟩;clear hK K hR R
   repeat (refine zeY (fun R hR=>?_);(first|refine zbY rfl rfl (by first|exact .inl rfl|exact .inr rfl) (by simp only[zE,zF,zG,zH];rfl) (by simp only[zA,zB,zC,zD];rfl) ?_|refine zcY rfl rfl rfl (by simp only[zE,zF,zG,zH];rfl) (by simp only[zA,zB,zC,zD];rfl) ?_|(refine zdY rfl rfl rfl rfl ?_;apply zEx;apply zEx;refine⟨fun w' hS K hK=>?_,?_,?_⟩;(focus (obtain⟨hS1,hS2⟩:=hS;go_wp2;exact hK _ _ (by simp only[zl,zG,zH];first|exact zf (by omega)|exact zg (by omega)|exact zh (by omega)|exact zi (by omega)|exact zj (by omega)|exact zk (by omega)|exact RX.bneB _|rfl) rfl));(focus (simp only[zA,zB,zC,zD];rfl))));refine hR _ _ ?_;clear hR R)
   refine zeY (fun R hR=>?_)
   refine zgY (by first|rfl|(rw[HO.out];rfl)) rfl (fun K hK=>?_)
   go_wp2
   first|refine⟨(by first|exact .inl rfl|exact .inl trivial|trivial),hR _ _ (RY.wpL_nil (hQR _ _ ?_))⟩|refine hR _ _ (RY.wpL_nil (hQR _ _ ?_))|refine hQR _ _ ?_
   (try clear hR);(try clear R);clear hQR QR HO OPS
   have n0:((w8.setCell ⟨N+1,0,none⟩ (.int .i64 C2)).setCell ⟨N+1,1,none⟩ (.int .u64 D2)).cell? ⟨N+1,0,none⟩=some (.int .i64 C2):=by rw[zK _ _ _ _ (by simp)];exact zL _ _ _ (by rw[y0];rfl)
   have n1:((w8.setCell ⟨N+1,0,none⟩ (.int .i64 C2)).setCell ⟨N+1,1,none⟩ (.int .u64 D2)).cell? ⟨N+1,1,none⟩=some (.int .u64 D2):=zL _ _ _ (by rw[zK _ _ _ _ (by simp),y1];rfl)
   have p0:((w8.setCell ⟨N+1,0,none⟩ (.int .i64 C2)).setCell ⟨N+1,1,none⟩ (.int .u64 D2)).cell? ⟨N,0,none⟩=some (.int .i64 C0):=by rw[zK _ _ _ _ (by simp),zK _ _ _ _ (by simp)];exact x0
   have p1:((w8.setCell ⟨N+1,0,none⟩ (.int .i64 C2)).setCell ⟨N+1,1,none⟩ (.int .u64 D2)).cell? ⟨N,1,none⟩=some (.int .u64 D0):=by rw[zK _ _ _ _ (by simp),zK _ _ _ _ (by simp)];exact x1
   have nf0:((w8.setCell ⟨N+1,0,none⟩ (.int .i64 C2)).setCell ⟨N+1,1,none⟩ (.int .u64 D2)).frozen? ⟨N+1,0,none⟩=false:=by rw[World.frozen?_setCell,World.frozen?_setCell];exact yf0
   have nf1:((w8.setCell ⟨N+1,0,none⟩ (.int .i64 C2)).setCell ⟨N+1,1,none⟩ (.int .u64 D2)).frozen? ⟨N+1,1,none⟩=false:=by rw[World.frozen?_setCell,World.frozen?_setCell];exact yf1
   have HBT:Hid (Below w.heap.size w ((w8.setCell ⟨N+1,0,none⟩ (.int .i64 C2)).setCell ⟨N+1,1,none⟩ (.int .u64 D2))):=zN ((HB9.out.setCell (by simp<;>omega) _).setCell (by simp<;>omega) _)
   clear y0 y1 x0 x1 yf0 yf1 HB9
   generalize ((w8.setCell ⟨N+1,0,none⟩ (.int .i64 C2)).setCell ⟨N+1,1,none⟩ (.int .u64 D2))=U at *
   go_wp2_with fail
   refine (compare_wv2 (wTo x y (k+1)) R2 _ _ _ HS2.out.symm HS0.out.symm (by have:=HLK.out.2;omega) (by have:=HLK.out.2;have:=HWR.out;have:=HR2.out;have:=mul_abs_le (x:=d) (B:=2199023255552) (by omega) (by omega);have:=HST.out;omega) (by have:=HR2.out;omega) (by have:=HR2.out;omega)).mono ?_
   rintro e w9 ⟨rfl,hb10⟩
   have HB10:=zN (HBT.out.trans (hb10.mono HBT.out.size))
   have hNl:N+1 < U.heap.size:=zM _ _ n0
   have y0:=zP hb10 n0
   have y1:=zP hb10 n1
   have x0:=zP hb10 p0
   have x1:=zP hb10 p1
   have yf0:w9.frozen? ⟨N+1,0,none⟩=false:=(hb10.frozen (p:=⟨N+1,0,none⟩) hNl).trans nf0
   have yf1:w9.frozen? ⟨N+1,1,none⟩=false:=(hb10.frozen (p:=⟨N+1,1,none⟩) hNl).trans nf1
   clear hb10 n0 n1 p0 p1 nf0 nf1 HBT hNl
   by_cases hgt:R2 < wTo x y (k+1)
   ·have hsg:sgn (wTo x y (k+1)) R2=1:=by unfold sgn;rw[if_neg (by omega),if_pos hgt]
    rw[hsg]
    have HF:Hid (decide (dotL (subL x y) (subL x y)≤R2)=false):=zN (zDf (by have:=HLK.out.2;omega))
    clear hgt hsg y0 y1 x0 x1 yf0 yf1
    go_wp2
    go_ret
    exact⟨by rw[HF.out];rfl,HB10.out⟩
   ·have hsg:sgn (wTo x y (k+1)) R2≤0:=by unfold sgn;split<;>(try split)<;>omega
    obtain⟨sg,hsge⟩:∃ sg,sg=sgn (wTo x y (k+1)) R2:=⟨_,rfl⟩
    rw[←hsge] at hsg ⊢
    have HLE2:Hid (wTo x y (k+1)≤R2):=zN (by omega)
    clear hsge hgt
    go_wp2
    go_roundw
    case rel=>exact⟨k+1,C2,D2,by omega,by go_num,HS2,HLE2,x0,x1,y0,y1,yf0,yf1,HB10.out⟩
    case measure=>simp[intOf];omega
  ·have hdk:decide ((k:Int) < (n:Int))=false:=zDf (by omega)
   obtain rfl:k=n:=by omega
   have HF:Hid (decide (dotL (subL x y) (subL x y)≤R2)=true):=zN (zDt (by have:=HWR.out;rw[HEND.out] at this;exact this))
   go_wp2
   go_ret
   exact⟨by rw[HF.out];rfl,hbr⟩
theorem fmod_any (x n:Int) (w:World) (hx:-9223372036854775808≤x) (hx':x≤9223372036854775807) (h1:1≤n) (h2:n≤4611686018427387904) :
  Calls Tryz.prog 38 #[.int .i64 x,.int .i64 n] w fun e w'=>e=.returned (.int .i64 (x % n))∧w=w':=by
 have hn0:(n == 0)=false:=by rw[beq_eq_false_iff_ne];omega
 by_cases h0:0≤x
 ·have e1:x.tmod n=x % n:=Int.tmod_eq_emod_of_nonneg h0
  have e2:=Int.emod_nonneg x (show n≠0 by omega)
  have e3:=Int.emod_lt_of_pos x (show 0 < n by omega)
  go_enter Tryz.func38,Tryz.ntmps38
  go_wp2
  go_ret
  exact⟨rfl,rfl⟩
 ·obtain⟨t,ht⟩:∃ t,t=x.tmod n:=⟨_,rfl⟩
  have a2:x.tmod n=-((-x) % n):=by
   rw[show x=-(-x) by omega,Int.neg_tmod,Int.neg_neg,Int.tmod_eq_emod_of_nonneg (by omega)]
  have hr:x % n=if t < 0 then t+n else t:=by
   rw[ht]
   rw[a2]
   have a3:=Int.emod_nonneg (-x) (show n≠0 by omega)
   have a4:=Int.emod_lt_of_pos (-x) (show 0 < n by omega)
   have a5:=Int.emod_nonneg x (show n≠0 by omega)
   have a6:=Int.emod_lt_of_pos x (show 0 < n by omega)
   have a7:=Int.mul_ediv_add_emod (-x) n
   have a8:=Int.mul_ediv_add_emod x n
   have a9:n*((-x) / n+x / n)=- ((-x) % n)-x % n:=by rw[Int.mul_add];omega
   generalize (-x) / n+x / n=z at a9
   generalize (-x) % n=u at *
   generalize x % n=v at *
   split
   ·have:z=-1:=by
     have b1:n*z < 0:=by omega
     have b2:n*(-2) < n*z:=by omega
     have b3:z < 0:=by
      by_cases h:z < 0
      ·exact h
      ·have:=Int.mul_nonneg (show 0≤n by omega) (show 0≤z by omega);omega
     have b4:-2 < z:=Int.lt_of_mul_lt_mul_left b2 (by omega)
     omega
    subst this;omega
   ·have u0:u=0:=by omega
    subst u0
    have:z=0:=by
     have b2:n*(-1) < n*z:=by omega
     have b4:-1 < z:=Int.lt_of_mul_lt_mul_left b2 (by omega)
     have b5:n*z < n*1:=by omega
     have b6:z < 1:=Int.lt_of_mul_lt_mul_left b5 (by omega)
     omega
    subst this;omega
  have hlt:-n < t:=by
   have:=Int.emod_lt_of_pos (-x) (show 0 < n by omega);omega
  have hle:t≤0:=by
   have:=Int.emod_nonneg (-x) (show n≠0 by omega);omega
  clear a2
  have HR:=zN hr
  have ht':x.tmod n=t:=ht.symm
  clear hr ht
  by_cases hneg:t < 0
  ·go_enter Tryz.func38,Tryz.ntmps38
   go_wp2
   go_ret
   rw[HR.out,if_pos hneg]
   exact⟨rfl,rfl⟩
  ·go_enter Tryz.func38,Tryz.ntmps38
   go_wp2
   go_ret
   rw[HR.out,if_neg (by omega)]
   exact⟨rfl,rfl⟩
open Go.RowKit Go.Grid Go.Shelf Go.Proofs
def RadOk (h l a:Int):Prop:=1≤a∧a≤1000000∧0≤h∧h*18446744073709551616+l≤21267647932558653966460912964485513216
open Classical in
noncomputable def radN (sq a:Int):Nat:=if h:∃ r,CertOf sq a r then Classical.choose h else 0
theorem radN_eq {sq a:Int} {r:Nat} (h:CertOf sq a r):radN sq a=r:=by
 unfold radN
 rw[dif_pos ⟨r,h⟩]
 exact (Classical.choose_spec (⟨r,h⟩:∃ r,CertOf sq a r)).uniq h
open Classical in
noncomputable def radE (h l a:Int):Int:=if RadOk h l a then 0 else 1
open Classical in
noncomputable def radV (h l a:Int):Int:=if RadOk h l a then (radN (h*18446744073709551616+l) a:Int) else 0
theorem radE_yes {h l a:Int} (k:RadOk h l a):radE h l a=0:=if_pos k
theorem radE_no {h l a:Int} (k:¬ RadOk h l a):radE h l a=1:=if_neg k
theorem radV_yes {h l a:Int} (k:RadOk h l a):radV h l a=(radN (h*18446744073709551616+l) a:Int):=if_pos k
theorem radV_no {h l a:Int} (k:¬ RadOk h l a):radV h l a=0:=if_neg k
theorem cradius_no (h l a:Int) (w:World) (hl0:0≤l) (hl1:l≤18446744073709551615) (k:¬ RadOk h l a) :
  Calls Tryz.prog 40 #[.agg #[.int .i64 h,.int .u64 l],.int .i64 a] w fun e w'=>e=.returned (.tuple #[.int .i64 0,.int .i64 1])∧Below w.heap.size w w':=by
 by_cases h1:a < 1
 ·clear k
  go_enter Tryz.func40,Tryz.ntmps40
  go_wp2
  refine RX.region RX.fL (fun w'=>w'.cell? ⟨w.heap.size+1,0,none⟩=some (.int .i64 a)∧w'.cell? ⟨w.heap.size,0,none⟩=some (.int .i64 h)∧w'.cell? ⟨w.heap.size,1,none⟩=some (.int .u64 l)) (by kernel_rfl) (by kernel_rfl) (⟨(by simp[zO,zJ,zQ]),(by simp[zO,zJ,zQ]),(by simp[zO,zJ,zQ])⟩) (fun OPS HO QR hQR=>?_)
  repeat (refine zeX (fun R hR=>?_);(first|refine zaX (by first|rfl|(rw[HO.out];rfl)) (by simp only[zA,zB,zC,zD];rfl) ?_|refine zbX (by first|rfl|(rw[HO.out];rfl)) rfl (by first|exact .inl rfl|exact .inr rfl) (by simp only[zE,zF,zG,zH];rfl) (by simp only[zA,zB,zC,zD];rfl) ?_|(refine zdX (by first|rfl|(rw[HO.out];rfl)) rfl rfl rfl ?_;apply zEx;apply zEx;refine⟨fun w' hS K hK=>?_,?_,?_⟩;(focus (obtain⟨hS1,hS2,hS3⟩:=hS;go_wp2;exact hK _ _ (by simp only[zl,zG,zH];first|exact zf (by omega)|exact zg (by omega)|exact zh (by omega)|exact zi (by omega)|exact zj (by omega)|exact zk (by omega)|exact RX.bneB _|rfl) rfl));(focus (simp only[zA,zB,zC,zD];rfl))));refine hR _ _ ?_;clear hR R)
  refine RX.wpL_nil (hQR _ _ (⟨(by simp[zO,zJ,zQ]),(by simp[zO,zJ,zQ]),(by simp[zO,zJ,zQ])⟩) ?_);clear hQR QR HO OPS
  go_wp2
  go_ret2
  exact⟨rfl,(by repeat (first|(with_reducible first|assumption|exact zBr _ _|refine zBs ?_ (by first|omega|simp<;>omega) _|refine zBa ?_ (by first|omega|simp<;>omega) _|apply zBd)|assumption))⟩
 by_cases h2:1000000 < a
 ·clear k
  go_enter Tryz.func40,Tryz.ntmps40
  go_wp2
  refine RX.region RX.fL (fun w'=>w'.cell? ⟨w.heap.size+1,0,none⟩=some (.int .i64 a)∧w'.cell? ⟨w.heap.size,0,none⟩=some (.int .i64 h)∧w'.cell? ⟨w.heap.size,1,none⟩=some (.int .u64 l)) (by kernel_rfl) (by kernel_rfl) (⟨(by simp[zO,zJ,zQ]),(by simp[zO,zJ,zQ]),(by simp[zO,zJ,zQ])⟩) (fun OPS HO QR hQR=>?_)
  repeat (refine zeX (fun R hR=>?_);(first|refine zaX (by first|rfl|(rw[HO.out];rfl)) (by simp only[zA,zB,zC,zD];rfl) ?_|refine zbX (by first|rfl|(rw[HO.out];rfl)) rfl (by first|exact .inl rfl|exact .inr rfl) (by simp only[zE,zF,zG,zH];rfl) (by simp only[zA,zB,zC,zD];rfl) ?_|(refine zdX (by first|rfl|(rw[HO.out];rfl)) rfl rfl rfl ?_;apply zEx;apply zEx;refine⟨fun w' hS K hK=>?_,?_,?_⟩;(focus (obtain⟨hS1,hS2,hS3⟩:=hS;go_wp2;exact hK _ _ (by simp only[zl,zG,zH];first|exact zf (by omega)|exact zg (by omega)|exact zh (by omega)|exact zi (by omega)|exact zj (by omega)|exact zk (by omega)|exact RX.bneB _|rfl) rfl));(focus (simp only[zA,zB,zC,zD];rfl))));refine hR _ _ ?_;clear hR R)
  refine RX.wpL_nil (hQR _ _ (⟨(by simp[zO,zJ,zQ]),(by simp[zO,zJ,zQ]),(by simp[zO,zJ,zQ])⟩) ?_);clear hQR QR HO OPS
  go_wp2
  go_ret2
  exact⟨rfl,(by repeat (first|(with_reducible first|assumption|exact zBr _ _|refine zBs ?_ (by first|omega|simp<;>omega) _|refine zBa ?_ (by first|omega|simp<;>omega) _|apply zBd)|assumption))⟩
 by_cases h3:h < 0
 ·clear k
  go_enter Tryz.func40,Tryz.ntmps40
  go_wp2
  refine RX.region RX.fL (fun w'=>w'.cell? ⟨w.heap.size+1,0,none⟩=some (.int .i64 a)∧w'.cell? ⟨w.heap.size,0,none⟩=some (.int .i64 h)∧w'.cell? ⟨w.heap.size,1,none⟩=some (.int .u64 l)) (by kernel_rfl) (by kernel_rfl) (⟨(by simp[zO,zJ,zQ]),(by simp[zO,zJ,zQ]),(by simp[zO,zJ,zQ])⟩) (fun OPS HO QR hQR=>?_)
  repeat (refine zeX (fun R hR=>?_);(first|refine zaX (by first|rfl|(rw[HO.out];rfl)) (by simp only[zA,zB,zC,zD];rfl) ?_|refine zbX (by first|rfl|(rw[HO.out];rfl)) rfl (by first|exact .inl rfl|exact .inr rfl) (by simp only[zE,zF,zG,zH];rfl) (by simp only[zA,zB,zC,zD];rfl) ?_|(refine zdX (by first|rfl|(rw[HO.out];rfl)) rfl rfl rfl ?_;apply zEx;apply zEx;refine⟨fun w' hS K hK=>?_,?_,?_⟩;(focus (obtain⟨hS1,hS2,hS3⟩:=hS;go_wp2;exact hK _ _ (by simp only[zl,zG,zH];first|exact zf (by omega)|exact zg (by omega)|exact zh (by omega)|exact zi (by omega)|exact zj (by omega)|exact zk (by omega)|exact RX.bneB _|rfl) rfl));(focus (simp only[zA,zB,zC,zD];rfl))));refine hR _ _ ?_;clear hR R)
  refine RX.wpL_nil (hQR _ _ (⟨(by simp[zO,zJ,zQ]),(by simp[zO,zJ,zQ]),(by simp[zO,zJ,zQ])⟩) ?_);clear hQR QR HO OPS
  go_wp2
  go_ret2
  exact⟨rfl,(by repeat (first|(with_reducible first|assumption|exact zBr _ _|refine zBs ?_ (by first|omega|simp<;>omega) _|refine zBa ?_ (by first|omega|simp<;>omega) _|apply zBd)|assumption))⟩
 have hs:¬ (h*18446744073709551616+l≤21267647932558653966460912964485513216):=fun e=>k ⟨by omega,by omega,by omega,e⟩
 have hc0:0 < cmpW h l 1152921504606846976 0:=by
  rw[cmpW_num _ _ _ _ hl0 (by omega) (by omega) (by omega)]
  unfold sgn
  (repeat' split)<;>omega
 generalize hc:cmpW h l 1152921504606846976 0=c at hc0
 have HC:=zN hc
 clear hc hs k
 go_enter Tryz.func40,Tryz.ntmps40
 go_wp2
 refine RX.region RX.fL (fun w'=>w'.cell? ⟨w.heap.size+1,0,none⟩=some (.int .i64 a)∧w'.cell? ⟨w.heap.size,0,none⟩=some (.int .i64 h)∧w'.cell? ⟨w.heap.size,1,none⟩=some (.int .u64 l)) (by kernel_rfl) (by kernel_rfl) (⟨(by simp[zO,zJ,zQ]),(by simp[zO,zJ,zQ]),(by simp[zO,zJ,zQ])⟩) (fun OPS HO QR hQR=>?_)
 repeat (refine zeX (fun R hR=>?_);(first|refine zaX (by first|rfl|(rw[HO.out];rfl)) (by simp only[zA,zB,zC,zD];rfl) ?_|refine zbX (by first|rfl|(rw[HO.out];rfl)) rfl (by first|exact .inl rfl|exact .inr rfl) (by simp only[zE,zF,zG,zH];rfl) (by simp only[zA,zB,zC,zD];rfl) ?_|(refine zdX (by first|rfl|(rw[HO.out];rfl)) rfl rfl rfl ?_;apply zEx;apply zEx;refine⟨fun w' hS K hK=>?_,?_,?_⟩;(focus (obtain⟨hS1,hS2,hS3⟩:=hS;go_wp2;exact hK _ _ (by simp only[zl,zG,zH];first|exact zf (by omega)|exact zg (by omega)|exact zh (by omega)|exact zi (by omega)|exact zj (by omega)|exact zk (by omega)|exact RX.bneB _|rfl) rfl));(focus (simp only[zA,zB,zC,zD];rfl))));refine hR _ _ ?_;clear hR R)
 refine zeX (fun R hR=>?_)
 refine zgX (by first|rfl|(rw[HO.out];rfl)) rfl (fun K hK=>?_)
 go_wp2_with fail
 refine (product_any _ _ _ (by omega) (by omega) (by omega) (by omega)).mono ?_
 rintro e w1 ⟨rfl,hb1⟩
 have k1:w1.cell? ⟨w.heap.size+1,0,none⟩=some (.int .i64 a):=zP hb1 (by simp[zO,zJ,zQ])
 have k2:w1.cell? ⟨w.heap.size,0,none⟩=some (.int .i64 h):=zP hb1 (by simp[zO,zJ,zQ])
 have k3:w1.cell? ⟨w.heap.size,1,none⟩=some (.int .u64 l):=zP hb1 (by simp[zO,zJ,zQ])
 have hB1:Below w.heap.size w w1:=Below.trans (by repeat (first|(with_reducible first|assumption|exact zBr _ _|refine zBs ?_ (by first|omega|simp<;>omega) _|refine zBa ?_ (by first|omega|simp<;>omega) _|apply zBd)|assumption)) (hb1.mono (by simp;omega))
 clear hb1
 refine hK _ _ ⟨⟨k1,k2,k3⟩,hR _ _ ?_⟩;clear hK K hR R
 repeat (refine zeX (fun R hR=>?_);(first|refine zaX (by first|rfl|(rw[HO.out];rfl)) (by simp only[zA,zB,zC,zD];rfl) ?_|refine zbX (by first|rfl|(rw[HO.out];rfl)) rfl (by first|exact .inl rfl|exact .inr rfl) (by simp only[zE,zF,zG,zH];rfl) (by simp only[zA,zB,zC,zD];rfl) ?_|(refine zdX (by first|rfl|(rw[HO.out];rfl)) rfl rfl rfl ?_;apply zEx;apply zEx;refine⟨fun w' hS K hK=>?_,?_,?_⟩;(focus (obtain⟨hS1,hS2,hS3⟩:=hS;go_wp2;exact hK _ _ (by simp only[zl,zG,zH];first|exact zf (by omega)|exact zg (by omega)|exact zh (by omega)|exact zi (by omega)|exact zj (by omega)|exact zk (by omega)|exact RX.bneB _|rfl) rfl));(focus (simp only[zA,zB,zC,zD];rfl))));refine hR _ _ ?_;clear hR R)
 refine zeX (fun R hR=>?_)
 refine zgX (by first|rfl|(rw[HO.out];rfl)) rfl (fun K hK=>?_)
 go_wp2_with fail
 refine (compare_any _ _ _ _ _).mono ?_
 rintro e w2 ⟨rfl,hb2⟩
 have m1:=zP hb2 k1
 have m2:=zP hb2 k2
 have m3:=zP hb2 k3
 have hB2:Below w.heap.size w w2:=hB1.trans (hb2.mono hB1.size)
 clear hb2 k1 k2 k3 hB1
 rw[HC.out]
 refine hK _ _ ⟨⟨m1,m2,m3⟩,hR _ _ ?_⟩;clear hK K hR R
 repeat (refine zeX (fun R hR=>?_);(first|refine zaX (by first|rfl|(rw[HO.out];rfl)) (by simp only[zA,zB,zC,zD];rfl) ?_|refine zbX (by first|rfl|(rw[HO.out];rfl)) rfl (by first|exact .inl rfl|exact .inr rfl) (by simp only[zE,zF,zG,zH];rfl) (by simp only[zA,zB,zC,zD];rfl) ?_|(refine zdX (by first|rfl|(rw[HO.out];rfl)) rfl rfl rfl ?_;apply zEx;apply zEx;refine⟨fun w' hS K hK=>?_,?_,?_⟩;(focus (obtain⟨hS1,hS2,hS3⟩:=hS;go_wp2;exact hK _ _ (by simp only[zl,zG,zH];first|exact zf (by omega)|exact zg (by omega)|exact zh (by omega)|exact zi (by omega)|exact zj (by omega)|exact zk (by omega)|exact RX.bneB _|rfl) rfl));(focus (simp only[zA,zB,zC,zD];rfl))));refine hR _ _ ?_;clear hR R)
 refine RX.wpL_nil (hQR _ _ (⟨m1,m2,m3⟩) ?_);clear hQR QR HO OPS
 go_wp2
 go_ret2
 exact⟨rfl,hB2⟩
theorem cradiusA (h l a:Int) (w:World) (hl0:0≤l) (hl1:l≤18446744073709551615) :
  Calls Tryz.prog 40 #[.agg #[.int .i64 h,.int .u64 l],.int .i64 a] w fun e w'=>e=.returned (.tuple #[.int .i64 (radV h l a),.int .i64 (radE h l a)])∧Below w.heap.size w w':=by
 by_cases k:RadOk h l a
 ·rw[radE_yes k,radV_yes k]
  refine (radius_ok h l a w hl0 hl1 k.2.2.1 k.2.2.2 k.1 k.2.1).mono ?_
  rintro e w' ⟨r,rfl,h1,h2,h3,hb⟩
  rw[radN_eq ⟨h1,h2,h3⟩]
  exact⟨rfl,hb⟩
 ·rw[radE_no k,radV_no k];exact cradius_no h l a w hl0 hl1 k
theorem rcompare_wv (p q:Int) (v u:Value) (w:World) (hv:v=wv p) (hu:u=wv q) (hp:-170141183460469231731687303715884105728≤p) (hp':p < 170141183460469231731687303715884105728) (hq:-170141183460469231731687303715884105728≤q) (hq':q < 170141183460469231731687303715884105728) :
  Calls Tryz.prog 95 #[v,u] w fun e w'=>e=.returned (.int .i64 (sgn p q))∧Below w.heap.size w w':=by
 subst hv hu
 refine (rcompare_any _ _ _ _ w).mono ?_
 rintro e w' ⟨rfl,h⟩
 refine⟨?_,h⟩
 have g1:wrap64 (p / 18446744073709551616)=p / 18446744073709551616:=by unfold wrap64;omega
 have g2:wrap64 (q / 18446744073709551616)=q / 18446744073709551616:=by unfold wrap64;omega
 rw[g1,g2,cmpW_num _ _ _ _ (by omega) (by omega) (by omega) (by omega),
  show p / 18446744073709551616*18446744073709551616+p % 18446744073709551616=p by omega,show q / 18446744073709551616*18446744073709551616+q % 18446744073709551616=q by omega]
theorem big_enough {sq a:Int} {r:Nat} (ha:1≤a) (hs:sq≤21267647932558653966460912964485513216) (hr:4611686018427387904 / a < (r:Int)):enough sq a r=true:=by
 unfold enough
 rw[decide_eq_true_eq]
 have h1:4611686018427387904 < (r:Int)*a:=by
  have:=Int.lt_ediv_add_one_mul_self 4611686018427387904 (show 0 < a by omega)
  have h2:=Int.mul_le_mul_of_nonneg_right (show 4611686018427387904 / a+1≤(r:Int) by omega) (show 0≤a by omega)
  omega
 have h3:=Int.mul_le_mul (show (4611686018427387904:Int)≤(r:Int)*a by omega) (show (4611686018427387904:Int)≤(r:Int)*a by omega) (by omega) (by omega)
 omega
theorem renough_any (r:Nat) (a h l:Int) (w:World) (k:RadOk h l a) (hl0:0≤l) (hl1:l≤18446744073709551615) (hr:(r:Int)≤4611686018427387904) :
  Calls Tryz.prog 89 #[.int .i64 (r:Int),.int .i64 a,.agg #[.int .i64 h,.int .u64 l]] w fun e w'=>e=.returned (.bool (enough (h*18446744073709551616+l) a r))∧Below w.heap.size w w':=by
 obtain⟨a1,a2,h0,hs⟩:=k
 have hane:(a == 0)=false:=by rw[beq_eq_false_iff_ne];omega
 have hq0:0≤4611686018427387904 / a:=Int.ediv_nonneg (by omega) (by omega)
 have hq1:4611686018427387904 / a≤4611686018427387904:=Int.ediv_le_self _ (by omega)
 obtain⟨Q,hQ⟩:∃ Q,4611686018427387904 / a=Q:=⟨_,rfl⟩
 by_cases hb:4611686018427387904 / a < (r:Int)
 ·have HB:Hid (enough (h*18446744073709551616+l) a r=true):=zN (big_enough a1 hs hb)
  clear hs
  go_enter Tryz.func89,Tryz.ntmps89
  rw[hQ] at hb hq0 hq1
  have hd:decide (Q < (r:Int))=true:=zDt hb
  have hd2:decide ((r:Int) > Q)=true:=zDt hb
  go_wp2
  go_ret
  rw[HB.out]
  exact⟨rfl,(by repeat (first|(with_reducible first|assumption|exact zBr _ _|refine zBs ?_ (by first|omega|simp<;>omega) _|refine zBa ?_ (by first|omega|simp<;>omega) _|apply zBd)|assumption))⟩
 ·have h2:0≤(r:Int)*a:=Int.mul_nonneg (by omega) (by omega)
  have h3:(r:Int)*a≤4611686018427387904:=Int.le_trans (Int.mul_le_mul_of_nonneg_right (show (r:Int)≤4611686018427387904 / a by omega) (by omega)) (Int.ediv_mul_le 4611686018427387904 (show a≠0 by omega))
  have hsq:=Int.mul_le_mul h3 h3 h2 (by omega)
  have hsn:=Int.mul_nonneg h2 h2
  have HW:=zN (wv_of h l (by omega) (by omega) hl0 (by omega))
  obtain⟨m,hm⟩:∃ m,(r:Int)*a=m:=⟨_,rfl⟩
  rw[hm] at h2 h3 hsq hsn
  have HM:=zN hm
  obtain⟨sg,hsg⟩:∃ sg,sg=sgn (m*m) (h*18446744073709551616+l):=⟨_,rfl⟩
  have HSG:=zN hsg
  have HE:Hid (decide (0≤sg)=enough (h*18446744073709551616+l) a r):=zN (by
   rw[hsg]
   unfold enough sgn
   rw[hm,Bool.eq_iff_iff]
   simp only[decide_eq_true_eq]
   (repeat' split)<;>omega)
  obtain⟨mm,hmm⟩:∃ mm,m*m=mm:=⟨_,rfl⟩
  rw[hmm] at hsq hsn
  have HMM:=zN hmm
  have HS0:=zN hs
  have HL:=zN (And.intro hl0 (And.intro hl1 h0))
  rw[hQ] at hb hq0 hq1
  have hd:decide (Q < (r:Int))=false:=zDf hb
  have hd2:decide ((r:Int) > Q)=false:=zDf hb
  clear hsg hmm hs
  go_enter Tryz.func89,Tryz.ntmps89
  go_wp2
  clear hd hd2 hQ
  refine RX.region RX.fL (fun w'=>w'.cell? ⟨w.heap.size,0,none⟩=some (.int .i64 h)∧w'.cell? ⟨w.heap.size,1,none⟩=some (.int .u64 l)) (by kernel_rfl) (by kernel_rfl) (⟨(by simp[zO,zJ,zQ]),(by simp[zO,zJ,zQ])⟩) (fun OPS HO QR hQR=>?_)
  repeat (refine zeX (fun R hR=>?_);(first|refine zbX rfl rfl (by first|exact .inl rfl|exact .inr rfl) (by simp only[zE,zF,zG,zH];rfl) (by simp only[zA,zB,zC,zD];rfl) ?_|(refine zdX rfl rfl rfl rfl ?_;apply zEx;apply zEx;refine⟨fun w' hS K hK=>?_,?_,?_⟩;(focus (obtain⟨hS1,hS2⟩:=hS;go_wp2;exact hK _ _ (by simp only[zl,zG,zH];first|exact zf (by omega)|exact zg (by omega)|exact zh (by omega)|exact zi (by omega)|exact zj (by omega)|exact zk (by omega)|exact RX.bneB _|rfl) rfl));(focus (simp only[zA,zB,zC,zD];rfl))));refine hR _ _ ?_;clear hR R)
  refine zeX (fun R hR=>?_)
  refine zgX (by first|rfl|(rw[HO.out];rfl)) rfl (fun K hK=>?_)
  go_wp2_with fail
  refine (rproduct_any m m _ (by omega) (by omega) (by omega) (by omega)).mono ?_
  rintro e w1 ⟨rfl,hb1⟩
  rw[HMM.out]
  obtain⟨C,D,q1,q2,hS⟩:=wv_parts mm
  clear q1 q2
  rw[hS]
  have HS:=zN hS
  clear hS
  have k1:w1.cell? ⟨w.heap.size,0,none⟩=some (.int .i64 h):=zP hb1 (by simp[zO,zJ,zQ])
  have k2:w1.cell? ⟨w.heap.size,1,none⟩=some (.int .u64 l):=zP hb1 (by simp[zO,zJ,zQ])
  have hB1:Below w.heap.size w w1:=Below.trans (by repeat (first|(with_reducible first|assumption|exact zBr _ _|refine zBs ?_ (by first|omega|simp<;>omega) _|refine zBa ?_ (by first|omega|simp<;>omega) _|apply zBd)|assumption)) (hb1.mono (by simp))
  clear hb1
  refine hK _ _ ⟨⟨k1,k2⟩,hR _ _ ?_⟩;clear hK K hR R
  repeat (refine zeX (fun R hR=>?_);(first|refine zbX rfl rfl (by first|exact .inl rfl|exact .inr rfl) (by simp only[zE,zF,zG,zH];rfl) (by simp only[zA,zB,zC,zD];rfl) ?_|(refine zdX rfl rfl rfl rfl ?_;apply zEx;apply zEx;refine⟨fun w' hS K hK=>?_,?_,?_⟩;(focus (obtain⟨hS1,hS2⟩:=hS;go_wp2;exact hK _ _ (by simp only[zl,zG,zH];first|exact zf (by omega)|exact zg (by omega)|exact zh (by omega)|exact zi (by omega)|exact zj (by omega)|exact zk (by omega)|exact RX.bneB _|rfl) rfl));(focus (simp only[zA,zB,zC,zD];rfl))));refine hR _ _ ?_;clear hR R)
  refine zeX (fun R hR=>?_)
  refine zgX (by first|rfl|(rw[HO.out];rfl)) rfl (fun K hK=>?_)
  go_wp2_with fail
  refine (rcompare_wv mm (h*18446744073709551616+l) _ _ _ HS.out.symm HW.out (by omega) (by omega) (by have:=HL.out;omega) (by have:=HS0.out;omega)).mono ?_
  rintro e w2 ⟨rfl,hb2⟩
  rw[←HMM.out,←HSG.out]
  have m1:=zP hb2 k1
  have m2:=zP hb2 k2
  have hB2:Below w.heap.size w w2:=hB1.trans (hb2.mono hB1.size)
  clear hb2 k1 k2 hB1
  refine hK _ _ ⟨⟨m1,m2⟩,hR _ _ ?_⟩;clear hK K hR R
  repeat (refine zeX (fun R hR=>?_);(first|refine zbX rfl rfl (by first|exact .inl rfl|exact .inr rfl) (by simp only[zE,zF,zG,zH];rfl) (by simp only[zA,zB,zC,zD];rfl) ?_|(refine zdX rfl rfl rfl rfl ?_;apply zEx;apply zEx;refine⟨fun w' hS K hK=>?_,?_,?_⟩;(focus (obtain⟨hS1,hS2⟩:=hS;go_wp2;exact hK _ _ (by simp only[zl,zG,zH];first|exact zf (by omega)|exact zg (by omega)|exact zh (by omega)|exact zi (by omega)|exact zj (by omega)|exact zk (by omega)|exact RX.bneB _|rfl) rfl));(focus (simp only[zA,zB,zC,zD];rfl))));refine hR _ _ ?_;clear hR R)
  refine RX.wpL_nil (hQR _ _ (⟨m1,m2⟩) ?_);clear hQR QR HO OPS
  go_wp2
  go_ret
  rw[←HE.out]
  exact⟨rfl,hB2⟩
theorem rradius_no (h l a:Int) (w:World) (hl0:0≤l) (hl1:l≤18446744073709551615) (k:¬ RadOk h l a) :
  Calls Tryz.prog 41 #[.agg #[.int .i64 h,.int .u64 l],.int .i64 a] w fun e w'=>e=.returned (.tuple #[.int .i64 0,.int .i64 1])∧Below w.heap.size w w':=by
 by_cases h1:a < 1
 ·clear k
  go_enter Tryz.func41,Tryz.ntmps41
  go_wp2
  go_ret2
  exact⟨rfl,(by repeat (first|(with_reducible first|assumption|exact zBr _ _|refine zBs ?_ (by first|omega|simp<;>omega) _|refine zBa ?_ (by first|omega|simp<;>omega) _|apply zBd)|assumption))⟩
 by_cases h2:1000000 < a
 ·clear k
  go_enter Tryz.func41,Tryz.ntmps41
  go_wp2
  go_ret2
  exact⟨rfl,(by repeat (first|(with_reducible first|assumption|exact zBr _ _|refine zBs ?_ (by first|omega|simp<;>omega) _|refine zBa ?_ (by first|omega|simp<;>omega) _|apply zBd)|assumption))⟩
 by_cases h3:h < 0
 ·clear k
  go_enter Tryz.func41,Tryz.ntmps41
  go_wp2
  go_ret2
  exact⟨rfl,(by repeat (first|(with_reducible first|assumption|exact zBr _ _|refine zBs ?_ (by first|omega|simp<;>omega) _|refine zBa ?_ (by first|omega|simp<;>omega) _|apply zBd)|assumption))⟩
 have hs:¬ (h*18446744073709551616+l≤21267647932558653966460912964485513216):=fun e=>k ⟨by omega,by omega,by omega,e⟩
 by_cases h4:1152921504606846976 < h
 ·clear k hs
  go_enter Tryz.func41,Tryz.ntmps41
  go_wp2
  go_ret2
  exact⟨rfl,(by repeat (first|(with_reducible first|assumption|exact zBr _ _|refine zBs ?_ (by first|omega|simp<;>omega) _|refine zBa ?_ (by first|omega|simp<;>omega) _|apply zBd)|assumption))⟩
 obtain rfl:h=1152921504606846976:=by omega
 have h5:0 < l:=by omega
 clear k hs
 go_enter Tryz.func41,Tryz.ntmps41
 go_wp2
 go_ret2
 exact⟨rfl,(by repeat (first|(with_reducible first|assumption|exact zBr _ _|refine zBs ?_ (by first|omega|simp<;>omega) _|refine zBa ?_ (by first|omega|simp<;>omega) _|apply zBd)|assumption))⟩
theorem rradius_ok (h l a:Int) (w:World) (hl0:0≤l) (hl1:l≤18446744073709551615) (k:RadOk h l a) :
  Calls Tryz.prog 41 #[.agg #[.int .i64 h,.int .u64 l],.int .i64 a] w fun e w'=>e=.returned (.tuple #[.int .i64 (radN (h*18446744073709551616+l) a:Int),.int .i64 0])∧Below w.heap.size w w':=by
 have HEN:Hid (∀ (r:Nat) (w2:World),(r:Int)≤4611686018427387904→Calls Tryz.prog 89 #[.int .i64 (r:Int),.int .i64 a,.agg #[.int .i64 h,.int .u64 l]] w2 fun e w'=>e=.returned (.bool (enough (h*18446744073709551616+l) a r))∧Below w2.heap.size w2 w'):=zN (fun r w2 hr=>renough_any r a h l w2 k hl0 hl1 hr)
 obtain⟨a1,a2,h0,hs⟩:=k
 have HMONO:Hid (∀ i j:Nat,i≤j→enough (h*18446744073709551616+l) a i=true→enough (h*18446744073709551616+l) a j=true):=zN (enough_mono _ a (by omega))
 have HTOP:Hid (enough (h*18446744073709551616+l) a 4611686018427387904=true):=zN (by
  unfold enough
  rw[decide_eq_true_eq]
  have e1:((4611686018427387904:Nat):Int)=4611686018427387904:=rfl
  rw[e1]
  have h2:=Int.mul_le_mul (show (1:Int)≤a by omega) (show (1:Int)≤a by omega) (by omega) (by omega)
  rw[show 4611686018427387904*a*(4611686018427387904*a)=21267647932558653966460912964485513216*(a*a) by
   rw[Int.mul_assoc,Int.mul_left_comm a,←Int.mul_assoc,show (4611686018427387904:Int)*4611686018427387904=21267647932558653966460912964485513216 by decide]]
  omega)
 have HCERT:Hid (∀ r:Nat,enough (h*18446744073709551616+l) a r=true→(∀ j,j < r→enough (h*18446744073709551616+l) a j=false)→radN (h*18446744073709551616+l) a=r):=zN (fun r e1 e2=>by
  refine radN_eq ⟨?_,e1,e2⟩
  have hq0:0≤4611686018427387904 / a:=Int.ediv_nonneg (by omega) (by omega)
  have hl:=enough_last (h*18446744073709551616+l) a a1 a2 hs
  have hN:enough (h*18446744073709551616+l) a (4611686018427387904 / a+1).toNat=true:=by
   unfold enough
   rw[decide_eq_true_eq,Int.toNat_of_nonneg (by omega)]
   exact hl
  refine Int.not_lt.1 fun e=>?_
  have:=e2 (4611686018427387904 / a+1).toNat (by omega)
  rw[hN] at this;cases this)
 have hh4:h≤1152921504606846976:=by omega
 have hh5:h=1152921504606846976→l=0:=fun e=>by omega
 have HH5:=zN hh5
 obtain⟨E,hE⟩:∃ E:Nat→Bool,E=enough (h*18446744073709551616+l) a:=⟨_,rfl⟩
 rw[←hE] at HEN HMONO HTOP HCERT
 obtain⟨rN,hrN⟩:∃ rN,rN=radN (h*18446744073709551616+l) a:=⟨_,rfl⟩
 rw[←hrN] at HCERT ⊢
 clear hs hE hrN hh5
 have hb3:(h == 1152921504606846976)=true→(decide (l > 0))=false:=fun e=>by rw[beq_iff_eq] at e;rw[HH5.out e];rfl
 have main:∀ (b:Bool),(h == 1152921504606846976)=b→Calls Tryz.prog 41 #[.agg #[.int .i64 h,.int .u64 l],.int .i64 a] w fun e w'=>e=.returned (.tuple #[.int .i64 (rN:Int),.int .i64 0])∧Below w.heap.size w w':=by
  intro b hb
  have hl9:b=true→decide (0 < l)=false:=fun e=>by rw[e,beq_iff_eq] at hb;rw[HH5.out hb];rfl
  have HL9:=zN hl9
  clear hl9 hb3
  go_enter Tryz.func41,Tryz.ntmps41
  cases b with
  |true=>
   have hl8:=HL9.out rfl
   obtain rfl:l=0:=by have:=of_decide_eq_false hl8;omega
   go_wp2
   refine absW (F:=fun w'=>w'.cell? ⟨w.heap.size,0,none⟩=some (.int .i64 h)∧w'.cell? ⟨w.heap.size,1,none⟩=some (.int .u64 0)∧Below w.heap.size w w') ⟨(by simp[zO,zJ,zQ]),(by simp[zO,zJ,zQ]),(by repeat (first|(with_reducible first|assumption|exact zBr _ _|refine zBs ?_ (by first|omega|simp<;>omega) _|refine zBa ?_ (by first|omega|simp<;>omega) _|apply zBd)|assumption))⟩ ?_
   rintro W1 ⟨c0,c1,hb1⟩
   go_loopw [6,7] (fun lo hi wr=>∃ x y:Nat,lo=.int .i64 x∧hi=.int .i64 y∧x≤y∧y≤4611686018427387904∧Hid (E y=true∧∀ j,j < x→E j=false)∧Below W1.heap.size W1 wr) (fun lo hi _=>(intOf hi).toNat-(intOf lo).toNat)
   case atStart=>exact⟨0,4611686018427387904,rfl,rfl,by omega,by omega,zN ⟨HTOP.out,fun j hj=>by omega⟩,zBr _ _⟩
   case round=>
    obtain⟨x,y,rfl,rfl,hxy,hy,HI,hbr⟩:=hrel
    have r0:=zP hbr c0
    have r1:=zP hbr c1
    by_cases hlt:x < y
    ·have hd:decide ((x:Int) < (y:Int))=true:=zDt (by omega)
     obtain⟨m,hm⟩:∃ m:Nat,(x:Int)+((y:Int)-(x:Int)) / 2=m:=⟨x+(y-x) / 2,by omega⟩
     have hmx:x≤m:=by omega
     have hmy:m < y:=by omega
     go_wp2_with fail
     refine (HEN.out m _ (by omega)).mono ?_
     rintro e w2 ⟨rfl,hb2⟩
     have hb3:=hbr.trans (hb2.mono hbr.size)
     clear hb2 hbr r0 r1
     by_cases hE:E m=true
     ·rw[hE]
      go_wp2
      go_roundw
      case rel=>exact⟨x,m,rfl,rfl,hmx,by omega,zN ⟨hE,HI.out.2⟩,hb3⟩
      case measure=>simp[intOf];omega
     ·have hE2:E m=false:=by simpa using hE
      rw[hE2]
      go_wp2
      go_roundw
      case rel=>exact⟨m+1,y,by go_num,rfl,by omega,hy,zN ⟨HI.out.1,fun j hj=>by
       by_cases hjm:E j=true
       ·have:=HMONO.out j m (by omega) hjm;rw[hE2] at this;cases this
       ·simpa using hjm⟩,hb3⟩
      case measure=>simp[intOf];omega
    ·have hd:decide ((x:Int) < (y:Int))=false:=zDf (by omega)
     obtain rfl:x=y:=by omega
     obtain rfl:=HCERT.out x HI.out.1 HI.out.2
     have HBF:=zN (hb1.trans (hbr.mono hb1.size))
     clear hbr hb1
     go_wp2
     go_ret2
     exact⟨rfl,HBF.out⟩
  |false=>
   go_wp2
   refine absW (F:=fun w'=>w'.cell? ⟨w.heap.size,0,none⟩=some (.int .i64 h)∧w'.cell? ⟨w.heap.size,1,none⟩=some (.int .u64 l)∧Below w.heap.size w w') ⟨(by simp[zO,zJ,zQ]),(by simp[zO,zJ,zQ]),(by repeat (first|(with_reducible first|assumption|exact zBr _ _|refine zBs ?_ (by first|omega|simp<;>omega) _|refine zBa ?_ (by first|omega|simp<;>omega) _|apply zBd)|assumption))⟩ ?_
   rintro W1 ⟨c0,c1,hb1⟩
   go_loopw [6,7] (fun lo hi wr=>∃ x y:Nat,lo=.int .i64 x∧hi=.int .i64 y∧x≤y∧y≤4611686018427387904∧Hid (E y=true∧∀ j,j < x→E j=false)∧Below W1.heap.size W1 wr) (fun lo hi _=>(intOf hi).toNat-(intOf lo).toNat)
   case atStart=>exact⟨0,4611686018427387904,rfl,rfl,by omega,by omega,zN ⟨HTOP.out,fun j hj=>by omega⟩,zBr _ _⟩
   case round=>
    obtain⟨x,y,rfl,rfl,hxy,hy,HI,hbr⟩:=hrel
    have r0:=zP hbr c0
    have r1:=zP hbr c1
    by_cases hlt:x < y
    ·have hd:decide ((x:Int) < (y:Int))=true:=zDt (by omega)
     obtain⟨m,hm⟩:∃ m:Nat,(x:Int)+((y:Int)-(x:Int)) / 2=m:=⟨x+(y-x) / 2,by omega⟩
     have hmx:x≤m:=by omega
     have hmy:m < y:=by omega
     go_wp2_with fail
     refine (HEN.out m _ (by omega)).mono ?_
     rintro e w2 ⟨rfl,hb2⟩
     have hb3:=hbr.trans (hb2.mono hbr.size)
     clear hb2 hbr r0 r1
     by_cases hE:E m=true
     ·rw[hE]
      go_wp2
      go_roundw
      case rel=>exact⟨x,m,rfl,rfl,hmx,by omega,zN ⟨hE,HI.out.2⟩,hb3⟩
      case measure=>simp[intOf];omega
     ·have hE2:E m=false:=by simpa using hE
      rw[hE2]
      go_wp2
      go_roundw
      case rel=>exact⟨m+1,y,by go_num,rfl,by omega,hy,zN ⟨HI.out.1,fun j hj=>by
       by_cases hjm:E j=true
       ·have:=HMONO.out j m (by omega) hjm;rw[hE2] at this;cases this
       ·simpa using hjm⟩,hb3⟩
      case measure=>simp[intOf];omega
    ·have hd:decide ((x:Int) < (y:Int))=false:=zDf (by omega)
     obtain rfl:x=y:=by omega
     obtain rfl:=HCERT.out x HI.out.1 HI.out.2
     have HBF:=zN (hb1.trans (hbr.mono hb1.size))
     clear hbr hb1
     go_wp2
     go_ret2
     exact⟨rfl,HBF.out⟩
 exact main _ rfl
theorem rradiusA (h l a:Int) (w:World) (hl0:0≤l) (hl1:l≤18446744073709551615) :
  Calls Tryz.prog 41 #[.agg #[.int .i64 h,.int .u64 l],.int .i64 a] w fun e w'=>e=.returned (.tuple #[.int .i64 (radV h l a),.int .i64 (radE h l a)])∧Below w.heap.size w w':=by
 by_cases k:RadOk h l a
 ·rw[radE_yes k,radV_yes k];exact rradius_ok h l a w hl0 hl1 k
 ·rw[radE_no k,radV_no k];exact rradius_no h l a w hl0 hl1 k
theorem rdot_at (p:Option Addr) (zs:List Int) (c n:Nat) (w:World) (h1:zs.length=n) (hV:VecAt w p zs) (hl:n≤1000) (bz:I64L zs) :
  Calls Tryz.prog 94 #[.slice p n c,.slice p n c] w fun e w'=>e=.returned (.tuple #[wv (dotL zs zs),.int .i64 0])∧Below w.heap.size w w':=by
 subst h1;exact rdot_ok p p zs zs c c w hV hV rfl (by omega) bz bz
theorem rsquare_any (p:Option Addr) (zs:List Int) (c n:Nat) (w:World) (h1:zs.length=n) (hV:VecAt w p zs) (hl:n≤1000) (bz:I64L zs) :
  Calls Tryz.prog 47 #[.slice p n c] w fun e w'=>e=.returned (wv (dotL zs zs))∧Below w.heap.size w w':=by
 have HD:Hid (∀ w',VecAt w' p zs→Calls Tryz.prog 94 #[.slice p n c,.slice p n c] w' fun e w''=>e=.returned (.tuple #[wv (dotL zs zs),.int .i64 0])∧Below w'.heap.size w' w''):=zN (fun w' h=>rdot_at p zs c n w' h1 h hl bz)
 clear h1 hl bz
 go_enter Tryz.func47,Tryz.ntmps47
 go_wp2_with fail
 refine (HD.out _ (hV.below (by repeat (first|(with_reducible first|assumption|exact zBr _ _|refine zBs ?_ (by first|omega|simp<;>omega) _|refine zBa ?_ (by first|omega|simp<;>omega) _|apply zBd)|assumption)))).mono ?_
 rintro e w1 ⟨rfl,hb⟩
 obtain⟨C,D,q1,q2,hS⟩:=wv_parts (dotL zs zs)
 clear q1 q2
 rw[hS]
 have r0:w1.cell? ⟨w.heap.size,0,none⟩=some (.int .i64 0):=zP hb (by simp[zO,zJ,zQ])
 have r1:w1.cell? ⟨w.heap.size,1,none⟩=some (.int .u64 0):=zP hb (by simp[zO,zJ,zQ])
 have rf:∀ k,w1.frozen? ⟨w.heap.size,k,none⟩=false:=fun k=>by
  rw[zFb (hb.block _ (by simp))];simp
 have f0:=rf 0
 have f1:=rf 1
 have hlt:w.heap.size < w1.heap.size:=zM _ _ r0
 have hB:Below w.heap.size w w1:=Below.trans (by repeat (first|(with_reducible first|assumption|exact zBr _ _|refine zBs ?_ (by first|omega|simp<;>omega) _|refine zBa ?_ (by first|omega|simp<;>omega) _|apply zBd)|assumption)) (hb.mono (by simp<;>omega))
 have HS:=zN hS
 clear hb rf HD hS hV
 go_wp2
 refine absW (F:=fun w'=>w'.cell? ⟨w.heap.size,0,none⟩=some (.int .i64 C)∧w'.cell? ⟨w.heap.size,1,none⟩=some (.int .u64 D)∧Below w.heap.size w w') ⟨?_,?_,(by repeat (first|(with_reducible first|assumption|exact zBr _ _|refine zBs ?_ (by first|omega|simp<;>omega) _|refine zBa ?_ (by first|omega|simp<;>omega) _|apply zBd)|assumption))⟩ ?_
 ·rw[zJ,if_neg (by simp<;>omega),zK _ _ _ _ (by simp)];exact zL _ _ _ (by rw[r0];rfl)
 ·rw[zJ,if_neg (by simp<;>omega)];exact zL _ _ _ (by rw[zK _ _ _ _ (by simp),r1];rfl)
 rintro W4 ⟨t0,t1,hBB⟩
 refine bodyPost_ret (v:=.agg #[.int .i64 C,.int .u64 D]) ?_ rfl ⟨by rw[HS.out],hBB⟩
 simp[results,Tryz.results47,go_sem,t0,t1]
theorem cof_no (S:Sy) (v:Value) (q p:Option Addr) (x:List Int) (rl rc xc n:Nat) (w:World) (E:Int) (hne:E≠0) (hS:SysIn w v S)
  (HH:Hid (∀ w2 v2,Below w.heap.size w w2→SysIn w2 v2 S→Calls Tryz.prog 21 #[v2,.slice p n xc] w2 fun e w'=>e=.returned (.tuple #[.slice none 0 0,.int .i64 E])∧Below w2.heap.size w2 w')) :
  Calls Tryz.prog 42 #[v,.slice q rl rc,.slice p n xc] w fun e w'=>e=.returned (.tuple #[.agg #[.int .i64 0,.int .u64 0,.int .i64 0,.int .i64 0],.int .i64 E])∧Below w.heap.size w w':=by
 have hbe:(E != 0)=true:=by rw[bne_iff_ne];exact hne
 have HS:=zN hS
 obtain⟨p1,d1,p2,d2,rfl,_⟩:=hS
 clear hne
 go_enter Tryz.func42,Tryz.ntmps42
 go_wp2_with fail
 have hb0:Below w.heap.size w ((w.alloc (.cells #[.int .i64 S.f,.int .i64 S.s,.int .i64 S.a,.slice p1 S.rows.length d1,.slice p2 S.targets.length d2] 27)).alloc (.cells #[.int .i64 0,.int .u64 0,.int .i64 0,.int .i64 0] 70)):=(by repeat (first|(with_reducible first|assumption|exact zBr _ _|refine zBs ?_ (by first|omega|simp<;>omega) _|refine zBa ?_ (by first|omega|simp<;>omega) _|apply zBd)|assumption))
 have hP0:=CertAt.new (w.alloc (.cells #[.int .i64 S.f,.int .i64 S.s,.int .i64 S.a,.slice p1 S.rows.length d1,.slice p2 S.targets.length d2] 27)) 0 0 0 0
 rw[World.size_alloc] at hP0
 refine (HH.out _ _ hb0 (HS.out.below hb0)).mono ?_
 rintro e w1 ⟨rfl,hb1⟩
 have hPN:=hP0.below hb1
 have hB:Below w.heap.size w w1:=hb0.trans (hb1.mono hb0.size)
 clear hb1 hb0 hP0 HH HS
 obtain⟨r0,r1,r2,r3,f0,f1,f2,f3⟩:=id hPN
 go_wp2
 obtain⟨q0,q1,q2,q3,-⟩:=hPN.put 0 0 0 0
 refine absW (F:=fun w'=>w'.cell? ⟨w.heap.size+1,0,none⟩=some (.int .i64 0)∧w'.cell? ⟨w.heap.size+1,1,none⟩=some (.int .u64 0)∧w'.cell? ⟨w.heap.size+1,2,none⟩=some (.int .i64 0)∧w'.cell? ⟨w.heap.size+1,3,none⟩=some (.int .i64 0)∧Below w.heap.size w w') ⟨q0,q1,q2,q3,(((hB.setCell (by simp) _).setCell (by simp) _).setCell (by simp) _).setCell (by simp) _⟩ ?_
 rintro W4 ⟨t0,t1,t2,t3,hBB⟩
 refine bodyPost_ret (v:=.tuple #[.agg #[.int .i64 0,.int .u64 0,.int .i64 0,.int .i64 0],.int .i64 E]) ?_ rfl ⟨rfl,hBB⟩
 simp[results,Tryz.results42,go_sem,t0,t1,t2,t3]
theorem rof_no (S:Sy) (v:Value) (q p:Option Addr) (x:List Int) (rl rc xc n:Nat) (w:World) (E:Int) (hne:E≠0) (hS:SysIn w v S)
  (HH:Hid (∀ w2 v2,Below w.heap.size w w2→SysIn w2 v2 S→Calls Tryz.prog 27 #[v2,.slice p n xc] w2 fun e w'=>e=.returned (.tuple #[.slice none 0 0,.int .i64 E])∧Below w2.heap.size w2 w')) :
  Calls Tryz.prog 43 #[v,.slice q rl rc,.slice p n xc] w fun e w'=>e=.returned (.tuple #[.agg #[.int .i64 0,.int .u64 0,.int .i64 0,.int .i64 0],.int .i64 E])∧Below w.heap.size w w':=by
 have hbe:(E != 0)=true:=by rw[bne_iff_ne];exact hne
 have HS:=zN hS
 obtain⟨p1,d1,p2,d2,rfl,_⟩:=hS
 clear hne
 go_enter Tryz.func43,Tryz.ntmps43
 go_wp2_with fail
 have hb0:Below w.heap.size w ((w.alloc (.cells #[.int .i64 S.f,.int .i64 S.s,.int .i64 S.a,.slice p1 S.rows.length d1,.slice p2 S.targets.length d2] 27)).alloc (.cells #[.int .i64 0,.int .u64 0,.int .i64 0,.int .i64 0] 70)):=(by repeat (first|(with_reducible first|assumption|exact zBr _ _|refine zBs ?_ (by first|omega|simp<;>omega) _|refine zBa ?_ (by first|omega|simp<;>omega) _|apply zBd)|assumption))
 have hP0:=CertAt.new (w.alloc (.cells #[.int .i64 S.f,.int .i64 S.s,.int .i64 S.a,.slice p1 S.rows.length d1,.slice p2 S.targets.length d2] 27)) 0 0 0 0
 rw[World.size_alloc] at hP0
 refine (HH.out _ _ hb0 (HS.out.below hb0)).mono ?_
 rintro e w1 ⟨rfl,hb1⟩
 have hPN:=hP0.below hb1
 have hB:Below w.heap.size w w1:=hb0.trans (hb1.mono hb0.size)
 clear hb1 hb0 hP0 HH HS
 obtain⟨r0,r1,r2,r3,f0,f1,f2,f3⟩:=id hPN
 go_wp2
 obtain⟨q0,q1,q2,q3,-⟩:=hPN.put 0 0 0 0
 refine absW (F:=fun w'=>w'.cell? ⟨w.heap.size+1,0,none⟩=some (.int .i64 0)∧w'.cell? ⟨w.heap.size+1,1,none⟩=some (.int .u64 0)∧w'.cell? ⟨w.heap.size+1,2,none⟩=some (.int .i64 0)∧w'.cell? ⟨w.heap.size+1,3,none⟩=some (.int .i64 0)∧Below w.heap.size w w') ⟨q0,q1,q2,q3,(((hB.setCell (by simp) _).setCell (by simp) _).setCell (by simp) _).setCell (by simp) _⟩ ?_
 rintro W4 ⟨t0,t1,t2,t3,hBB⟩
 refine bodyPost_ret (v:=.tuple #[.agg #[.int .i64 0,.int .u64 0,.int .i64 0,.int .i64 0],.int .i64 E]) ?_ rfl ⟨rfl,hBB⟩
 simp[results,Tryz.results43,go_sem,t0,t1,t2,t3]
theorem cof_rng (S:Sy) (v:Value) (q p:Option Addr) (R x:List Int) (rc xc n rl:Nat) (w:World) (hS:SysIn w v S) (hU:VecAt w q R) (hRl:R.length=rl) (hrl:rl≤1000000000) (hRI:I64L R) (hbad:rl≠n∨(rl=n∧beyondB R=true))
  (HH:Hid (∀ w2 v2,Below w.heap.size w w2→SysIn w2 v2 S→Calls Tryz.prog 21 #[v2,.slice p n xc] w2 fun e w'=>∃ N,e=.returned (.tuple #[.slice (some ⟨N,0,none⟩) n n,.int .i64 0])∧Below w2.heap.size w2 w')) :
  Calls Tryz.prog 42 #[v,.slice q rl rc,.slice p n xc] w fun e w'=>e=.returned (.tuple #[.agg #[.int .i64 0,.int .u64 0,.int .i64 0,.int .i64 0],.int .i64 1])∧Below w.heap.size w w':=by
 have HS:=zN hS
 have HU:=zN hU
 have HRI:=zN hRI
 have HRL:=zN hRl
 clear hU hRI hRl
 obtain⟨p1,d1,p2,d2,rfl,_⟩:=hS
 rcases hbad with hne|⟨he,hbB⟩
 ·go_enter Tryz.func42,Tryz.ntmps42
  go_wp2_with fail
  have hb0:Below w.heap.size w ((w.alloc (.cells #[.int .i64 S.f,.int .i64 S.s,.int .i64 S.a,.slice p1 S.rows.length d1,.slice p2 S.targets.length d2] 27)).alloc (.cells #[.int .i64 0,.int .u64 0,.int .i64 0,.int .i64 0] 70)):=(by repeat (first|(with_reducible first|assumption|exact zBr _ _|refine zBs ?_ (by first|omega|simp<;>omega) _|refine zBa ?_ (by first|omega|simp<;>omega) _|apply zBd)|assumption))
  have hP0:=CertAt.new (w.alloc (.cells #[.int .i64 S.f,.int .i64 S.s,.int .i64 S.a,.slice p1 S.rows.length d1,.slice p2 S.targets.length d2] 27)) 0 0 0 0
  rw[World.size_alloc] at hP0
  refine (HH.out _ _ hb0 (HS.out.below hb0)).mono ?_
  rintro e w1 ⟨N,rfl,hb1⟩
  have hPN:=hP0.below hb1
  have hB:Below w.heap.size w w1:=hb0.trans (hb1.mono hb0.size)
  clear hb1 hb0 hP0 HH HS
  have hne2:((rl:Int) != (n:Int))=true:=by rw[bne_iff_ne];omega
  clear HU HRI HRL hne
  obtain⟨r0,r1,r2,r3,f0,f1,f2,f3⟩:=id hPN
  go_wp2
  obtain⟨q0,q1,q2,q3,-⟩:=hPN.put 0 0 0 0
  refine absW (F:=fun w'=>w'.cell? ⟨w.heap.size+1,0,none⟩=some (.int .i64 0)∧w'.cell? ⟨w.heap.size+1,1,none⟩=some (.int .u64 0)∧w'.cell? ⟨w.heap.size+1,2,none⟩=some (.int .i64 0)∧w'.cell? ⟨w.heap.size+1,3,none⟩=some (.int .i64 0)∧Below w.heap.size w w') ⟨q0,q1,q2,q3,(((hB.setCell (by simp) _).setCell (by simp) _).setCell (by simp) _).setCell (by simp) _⟩ ?_
  rintro W4 ⟨t0,t1,t2,t3,hBB⟩
  refine bodyPost_ret (v:=.tuple #[.agg #[.int .i64 0,.int .u64 0,.int .i64 0,.int .i64 0],.int .i64 1]) ?_ rfl ⟨rfl,hBB⟩
  simp[results,Tryz.results42,go_sem,t0,t1,t2,t3]
 ·subst he
  go_enter Tryz.func42,Tryz.ntmps42
  go_wp2_with fail
  have hb0:Below w.heap.size w ((w.alloc (.cells #[.int .i64 S.f,.int .i64 S.s,.int .i64 S.a,.slice p1 S.rows.length d1,.slice p2 S.targets.length d2] 27)).alloc (.cells #[.int .i64 0,.int .u64 0,.int .i64 0,.int .i64 0] 70)):=(by repeat (first|(with_reducible first|assumption|exact zBr _ _|refine zBs ?_ (by first|omega|simp<;>omega) _|refine zBa ?_ (by first|omega|simp<;>omega) _|apply zBd)|assumption))
  have hP0:=CertAt.new (w.alloc (.cells #[.int .i64 S.f,.int .i64 S.s,.int .i64 S.a,.slice p1 S.rows.length d1,.slice p2 S.targets.length d2] 27)) 0 0 0 0
  rw[World.size_alloc] at hP0
  refine (HH.out _ _ hb0 (HS.out.below hb0)).mono ?_
  rintro e w1 ⟨N,rfl,hb1⟩
  have hPN:=hP0.below hb1
  have hB:Below w.heap.size w w1:=hb0.trans (hb1.mono hb0.size)
  clear hb1 hb0 hP0 HH HS
  have hnn:((rl:Int) != (rl:Int))=false:=by simp
  have HBB:=zN hbB
  clear hbB
  go_wp2_with fail
  refine (containsB_any _ R rc rl _ HRL.out (HU.out.below (hB.trans (by repeat (first|(with_reducible first|assumption|exact zBr _ _|refine zBs ?_ (by first|omega|simp<;>omega) _|refine zBa ?_ (by first|omega|simp<;>omega) _|apply zBd)|assumption)))) (by omega)).mono ?_
  rintro e w2 ⟨rfl,hb2⟩
  rw[HBB.out]
  replace hPN:=hPN.below hb2
  replace hB:=hB.trans (hb2.mono hB.size)
  clear hb2 HU HRI HRL HBB
  obtain⟨r0,r1,r2,r3,f0,f1,f2,f3⟩:=id hPN
  go_wp2
  obtain⟨q0,q1,q2,q3,-⟩:=hPN.put 0 0 0 0
  refine absW (F:=fun w'=>w'.cell? ⟨w.heap.size+1,0,none⟩=some (.int .i64 0)∧w'.cell? ⟨w.heap.size+1,1,none⟩=some (.int .u64 0)∧w'.cell? ⟨w.heap.size+1,2,none⟩=some (.int .i64 0)∧w'.cell? ⟨w.heap.size+1,3,none⟩=some (.int .i64 0)∧Below w.heap.size w w') ⟨q0,q1,q2,q3,(((hB.setCell (by simp) _).setCell (by simp) _).setCell (by simp) _).setCell (by simp) _⟩ ?_
  rintro W4 ⟨t0,t1,t2,t3,hBB⟩
  refine bodyPost_ret (v:=.tuple #[.agg #[.int .i64 0,.int .u64 0,.int .i64 0,.int .i64 0],.int .i64 1]) ?_ rfl ⟨rfl,hBB⟩
  simp[results,Tryz.results42,go_sem,t0,t1,t2,t3]
theorem rof_rng (S:Sy) (v:Value) (q p:Option Addr) (R x:List Int) (rc xc n rl:Nat) (w:World) (hS:SysIn w v S) (hU:VecAt w q R) (hRl:R.length=rl) (hrl:rl≤1000000000) (hRI:I64L R) (hbad:rl≠n∨(rl=n∧beyondB R=true))
  (HH:Hid (∀ w2 v2,Below w.heap.size w w2→SysIn w2 v2 S→Calls Tryz.prog 27 #[v2,.slice p n xc] w2 fun e w'=>∃ N,e=.returned (.tuple #[.slice (some ⟨N,0,none⟩) n n,.int .i64 0])∧Below w2.heap.size w2 w')) :
  Calls Tryz.prog 43 #[v,.slice q rl rc,.slice p n xc] w fun e w'=>e=.returned (.tuple #[.agg #[.int .i64 0,.int .u64 0,.int .i64 0,.int .i64 0],.int .i64 1])∧Below w.heap.size w w':=by
 have HS:=zN hS
 have HU:=zN hU
 have HRI:=zN hRI
 have HRL:=zN hRl
 clear hU hRI hRl
 obtain⟨p1,d1,p2,d2,rfl,_⟩:=hS
 rcases hbad with hne|⟨he,hbB⟩
 ·go_enter Tryz.func43,Tryz.ntmps43
  go_wp2_with fail
  have hb0:Below w.heap.size w ((w.alloc (.cells #[.int .i64 S.f,.int .i64 S.s,.int .i64 S.a,.slice p1 S.rows.length d1,.slice p2 S.targets.length d2] 27)).alloc (.cells #[.int .i64 0,.int .u64 0,.int .i64 0,.int .i64 0] 70)):=(by repeat (first|(with_reducible first|assumption|exact zBr _ _|refine zBs ?_ (by first|omega|simp<;>omega) _|refine zBa ?_ (by first|omega|simp<;>omega) _|apply zBd)|assumption))
  have hP0:=CertAt.new (w.alloc (.cells #[.int .i64 S.f,.int .i64 S.s,.int .i64 S.a,.slice p1 S.rows.length d1,.slice p2 S.targets.length d2] 27)) 0 0 0 0
  rw[World.size_alloc] at hP0
  refine (HH.out _ _ hb0 (HS.out.below hb0)).mono ?_
  rintro e w1 ⟨N,rfl,hb1⟩
  have hPN:=hP0.below hb1
  have hB:Below w.heap.size w w1:=hb0.trans (hb1.mono hb0.size)
  clear hb1 hb0 hP0 HH HS
  have hne2:((rl:Int) != (n:Int))=true:=by rw[bne_iff_ne];omega
  clear HU HRI HRL hne
  obtain⟨r0,r1,r2,r3,f0,f1,f2,f3⟩:=id hPN
  go_wp2
  obtain⟨q0,q1,q2,q3,-⟩:=hPN.put 0 0 0 0
  refine absW (F:=fun w'=>w'.cell? ⟨w.heap.size+1,0,none⟩=some (.int .i64 0)∧w'.cell? ⟨w.heap.size+1,1,none⟩=some (.int .u64 0)∧w'.cell? ⟨w.heap.size+1,2,none⟩=some (.int .i64 0)∧w'.cell? ⟨w.heap.size+1,3,none⟩=some (.int .i64 0)∧Below w.heap.size w w') ⟨q0,q1,q2,q3,(((hB.setCell (by simp) _).setCell (by simp) _).setCell (by simp) _).setCell (by simp) _⟩ ?_
  rintro W4 ⟨t0,t1,t2,t3,hBB⟩
  refine bodyPost_ret (v:=.tuple #[.agg #[.int .i64 0,.int .u64 0,.int .i64 0,.int .i64 0],.int .i64 1]) ?_ rfl ⟨rfl,hBB⟩
  simp[results,Tryz.results43,go_sem,t0,t1,t2,t3]
 ·subst he
  go_enter Tryz.func43,Tryz.ntmps43
  go_wp2_with fail
  have hb0:Below w.heap.size w ((w.alloc (.cells #[.int .i64 S.f,.int .i64 S.s,.int .i64 S.a,.slice p1 S.rows.length d1,.slice p2 S.targets.length d2] 27)).alloc (.cells #[.int .i64 0,.int .u64 0,.int .i64 0,.int .i64 0] 70)):=(by repeat (first|(with_reducible first|assumption|exact zBr _ _|refine zBs ?_ (by first|omega|simp<;>omega) _|refine zBa ?_ (by first|omega|simp<;>omega) _|apply zBd)|assumption))
  have hP0:=CertAt.new (w.alloc (.cells #[.int .i64 S.f,.int .i64 S.s,.int .i64 S.a,.slice p1 S.rows.length d1,.slice p2 S.targets.length d2] 27)) 0 0 0 0
  rw[World.size_alloc] at hP0
  refine (HH.out _ _ hb0 (HS.out.below hb0)).mono ?_
  rintro e w1 ⟨N,rfl,hb1⟩
  have hPN:=hP0.below hb1
  have hB:Below w.heap.size w w1:=hb0.trans (hb1.mono hb0.size)
  clear hb1 hb0 hP0 HH HS
  have hnn:((rl:Int) != (rl:Int))=false:=by simp
  have HBB:=zN hbB
  clear hbB
  have HSM:Hid (∀ w2,VecAt w2 q R→Calls Tryz.prog 92 #[.slice q rl rc,.int .i64 144115188075855872] w2 fun e w'=>e=.returned (.bool false)∧w2=w'):=zN (fun w2 h=>by
   have h9:=rsmall_any 144115188075855872 (by omega) q R rc w2 h (by rw[HRL.out];exact hrl) HRI.out
   rw[HRL.out] at h9
   refine h9.mono ?_
   rintro e w' ⟨rfl,h8⟩
   refine⟨?_,h8⟩
   rw[zDf (fun hh=>?_)]
   have:=beyondB_false (R:=R) hh
   rw[HBB.out] at this;cases this)
  go_wp2_with fail
  refine (HSM.out _ (HU.out.below hB)).mono ?_
  rintro e w2 ⟨rfl,rfl⟩
  clear HU HRI HRL HBB HSM
  obtain⟨r0,r1,r2,r3,f0,f1,f2,f3⟩:=id hPN
  go_wp2
  obtain⟨q0,q1,q2,q3,-⟩:=hPN.put 0 0 0 0
  refine absW (F:=fun w'=>w'.cell? ⟨w.heap.size+1,0,none⟩=some (.int .i64 0)∧w'.cell? ⟨w.heap.size+1,1,none⟩=some (.int .u64 0)∧w'.cell? ⟨w.heap.size+1,2,none⟩=some (.int .i64 0)∧w'.cell? ⟨w.heap.size+1,3,none⟩=some (.int .i64 0)∧Below w.heap.size w w') ⟨q0,q1,q2,q3,(((hB.setCell (by simp) _).setCell (by simp) _).setCell (by simp) _).setCell (by simp) _⟩ ?_
  rintro W4 ⟨t0,t1,t2,t3,hBB⟩
  refine bodyPost_ret (v:=.tuple #[.agg #[.int .i64 0,.int .u64 0,.int .i64 0,.int .i64 0],.int .i64 1]) ?_ rfl ⟨rfl,hBB⟩
  simp[results,Tryz.results43,go_sem,t0,t1,t2,t3]
theorem cver_err (S:Sy) (v:Value) (q p:Option Addr) (rl rc xc n:Nat) (w:World) (C D A R E c d a r:Int) (hne:E≠0) (hS:SysIn w v S)
  (HH:Hid (∀ w2 v2,Below w.heap.size w w2→SysIn w2 v2 S→Calls Tryz.prog 42 #[v2,.slice q rl rc,.slice p n xc] w2 fun e w'=>e=.returned (.tuple #[.agg #[.int .i64 C,.int .u64 D,.int .i64 A,.int .i64 R],.int .i64 E])∧Below w2.heap.size w2 w')) :
  Calls Tryz.prog 44 #[v,.slice q rl rc,.slice p n xc,.agg #[.int .i64 c,.int .u64 d,.int .i64 a,.int .i64 r]] w fun e w'=>e=.returned (.int .i64 E)∧Below w.heap.size w w':=by
 have HS:=zN hS
 obtain⟨p1,d1,p2,d2,rfl,_⟩:=hS
 have hbe:(E != 0)=true:=by rw[bne_iff_ne];exact hne
 clear hne
 go_enter Tryz.func44,Tryz.ntmps44
 go_wp2_with fail
 have hb0:Below w.heap.size w ((w.alloc (.cells #[.int .i64 S.f,.int .i64 S.s,.int .i64 S.a,.slice p1 S.rows.length d1,.slice p2 S.targets.length d2] 27)).alloc (.cells #[.int .i64 c,.int .u64 d,.int .i64 a,.int .i64 r] 70)):=(by repeat (first|(with_reducible first|assumption|exact zBr _ _|refine zBs ?_ (by first|omega|simp<;>omega) _|refine zBa ?_ (by first|omega|simp<;>omega) _|apply zBd)|assumption))
 refine (HH.out _ _ hb0 (HS.out.below hb0)).mono ?_
 rintro e w1 ⟨rfl,hb1⟩
 have hB:Below w.heap.size w w1:=hb0.trans (hb1.mono hb0.size)
 have c0:w1.cell? ⟨w.heap.size+1,0,none⟩=some (.int .i64 c):=zP hb1 (by simp[zO,zJ,zQ])
 have c1:w1.cell? ⟨w.heap.size+1,1,none⟩=some (.int .u64 d):=zP hb1 (by simp[zO,zJ,zQ])
 have c2:w1.cell? ⟨w.heap.size+1,2,none⟩=some (.int .i64 a):=zP hb1 (by simp[zO,zJ,zQ])
 have c3:w1.cell? ⟨w.heap.size+1,3,none⟩=some (.int .i64 r):=zP hb1 (by simp[zO,zJ,zQ])
 have hlt:w.heap.size+1 < w1.heap.size:=zM _ _ c0
 have hne:¬ (w.heap.size+1=w1.heap.size):=by omega
 clear hb1 HH HS hb0
 go_wp2
 go_ret
 exact⟨rfl,(by repeat (first|(with_reducible first|assumption|exact zBr _ _|refine zBs ?_ (by first|omega|simp<;>omega) _|refine zBa ?_ (by first|omega|simp<;>omega) _|apply zBd)|assumption))⟩
theorem cver_same (S:Sy) (v:Value) (q p:Option Addr) (rl rc xc n:Nat) (w:World) (C D A R E:Int) (hS:SysIn w v S)
  (HH:Hid (∀ w2 v2,Below w.heap.size w w2→SysIn w2 v2 S→Calls Tryz.prog 42 #[v2,.slice q rl rc,.slice p n xc] w2 fun e w'=>e=.returned (.tuple #[.agg #[.int .i64 C,.int .u64 D,.int .i64 A,.int .i64 R],.int .i64 0])∧Below w2.heap.size w2 w')) :
  Calls Tryz.prog 44 #[v,.slice q rl rc,.slice p n xc,.agg #[.int .i64 C,.int .u64 D,.int .i64 A,.int .i64 R]] w fun e w'=>e=.returned (.int .i64 0)∧Below w.heap.size w w':=by
 have HS:=zN hS
 obtain⟨p1,d1,p2,d2,rfl,_⟩:=hS
 go_enter Tryz.func44,Tryz.ntmps44
 go_wp2_with fail
 have hb0:Below w.heap.size w ((w.alloc (.cells #[.int .i64 S.f,.int .i64 S.s,.int .i64 S.a,.slice p1 S.rows.length d1,.slice p2 S.targets.length d2] 27)).alloc (.cells #[.int .i64 C,.int .u64 D,.int .i64 A,.int .i64 R] 70)):=(by repeat (first|(with_reducible first|assumption|exact zBr _ _|refine zBs ?_ (by first|omega|simp<;>omega) _|refine zBa ?_ (by first|omega|simp<;>omega) _|apply zBd)|assumption))
 refine (HH.out _ _ hb0 (HS.out.below hb0)).mono ?_
 rintro e w1 ⟨rfl,hb1⟩
 have hB:Below w.heap.size w w1:=hb0.trans (hb1.mono hb0.size)
 have c0:w1.cell? ⟨w.heap.size+1,0,none⟩=some (.int .i64 C):=zP hb1 (by simp[zO,zJ,zQ])
 have c1:w1.cell? ⟨w.heap.size+1,1,none⟩=some (.int .u64 D):=zP hb1 (by simp[zO,zJ,zQ])
 have c2:w1.cell? ⟨w.heap.size+1,2,none⟩=some (.int .i64 A):=zP hb1 (by simp[zO,zJ,zQ])
 have c3:w1.cell? ⟨w.heap.size+1,3,none⟩=some (.int .i64 R):=zP hb1 (by simp[zO,zJ,zQ])
 have hlt:w.heap.size+1 < w1.heap.size:=zM _ _ c0
 have hne:¬ (w.heap.size+1=w1.heap.size):=by omega
 clear hb1 HH HS hb0
 go_wp2
 go_ret
 exact⟨rfl,(by repeat (first|(with_reducible first|assumption|exact zBr _ _|refine zBs ?_ (by first|omega|simp<;>omega) _|refine zBa ?_ (by first|omega|simp<;>omega) _|apply zBd)|assumption))⟩
theorem cver_anchor (S:Sy) (v:Value) (q p:Option Addr) (rl rc xc n:Nat) (w:World) (C D A R E a r:Int) (hne:a≠A) (hS:SysIn w v S)
  (HH:Hid (∀ w2 v2,Below w.heap.size w w2→SysIn w2 v2 S→Calls Tryz.prog 42 #[v2,.slice q rl rc,.slice p n xc] w2 fun e w'=>e=.returned (.tuple #[.agg #[.int .i64 C,.int .u64 D,.int .i64 A,.int .i64 R],.int .i64 0])∧Below w2.heap.size w2 w')) :
  Calls Tryz.prog 44 #[v,.slice q rl rc,.slice p n xc,.agg #[.int .i64 C,.int .u64 D,.int .i64 a,.int .i64 r]] w fun e w'=>e=.returned (.int .i64 12)∧Below w.heap.size w w':=by
 have HS:=zN hS
 obtain⟨p1,d1,p2,d2,rfl,_⟩:=hS
 have hb8:(a == A)=false:=by rw[beq_eq_false_iff_ne];exact hne
 have hb9:(A == a)=false:=by rw[beq_eq_false_iff_ne];exact fun e=>hne e.symm
 clear hne
 go_enter Tryz.func44,Tryz.ntmps44
 go_wp2_with fail
 have hb0:Below w.heap.size w ((w.alloc (.cells #[.int .i64 S.f,.int .i64 S.s,.int .i64 S.a,.slice p1 S.rows.length d1,.slice p2 S.targets.length d2] 27)).alloc (.cells #[.int .i64 C,.int .u64 D,.int .i64 a,.int .i64 r] 70)):=(by repeat (first|(with_reducible first|assumption|exact zBr _ _|refine zBs ?_ (by first|omega|simp<;>omega) _|refine zBa ?_ (by first|omega|simp<;>omega) _|apply zBd)|assumption))
 refine (HH.out _ _ hb0 (HS.out.below hb0)).mono ?_
 rintro e w1 ⟨rfl,hb1⟩
 have hB:Below w.heap.size w w1:=hb0.trans (hb1.mono hb0.size)
 have c0:w1.cell? ⟨w.heap.size+1,0,none⟩=some (.int .i64 C):=zP hb1 (by simp[zO,zJ,zQ])
 have c1:w1.cell? ⟨w.heap.size+1,1,none⟩=some (.int .u64 D):=zP hb1 (by simp[zO,zJ,zQ])
 have c2:w1.cell? ⟨w.heap.size+1,2,none⟩=some (.int .i64 a):=zP hb1 (by simp[zO,zJ,zQ])
 have c3:w1.cell? ⟨w.heap.size+1,3,none⟩=some (.int .i64 r):=zP hb1 (by simp[zO,zJ,zQ])
 have hlt:w.heap.size+1 < w1.heap.size:=zM _ _ c0
 have hne:¬ (w.heap.size+1=w1.heap.size):=by omega
 clear hb1 HH HS hb0
 go_wp2
 go_ret
 exact⟨rfl,(by repeat (first|(with_reducible first|assumption|exact zBr _ _|refine zBs ?_ (by first|omega|simp<;>omega) _|refine zBa ?_ (by first|omega|simp<;>omega) _|apply zBd)|assumption))⟩
theorem cver_radius (S:Sy) (v:Value) (q p:Option Addr) (rl rc xc n:Nat) (w:World) (C D A R E r:Int) (hne:r≠R) (hS:SysIn w v S)
  (HH:Hid (∀ w2 v2,Below w.heap.size w w2→SysIn w2 v2 S→Calls Tryz.prog 42 #[v2,.slice q rl rc,.slice p n xc] w2 fun e w'=>e=.returned (.tuple #[.agg #[.int .i64 C,.int .u64 D,.int .i64 A,.int .i64 R],.int .i64 0])∧Below w2.heap.size w2 w')) :
  Calls Tryz.prog 44 #[v,.slice q rl rc,.slice p n xc,.agg #[.int .i64 C,.int .u64 D,.int .i64 A,.int .i64 r]] w fun e w'=>e=.returned (.int .i64 12)∧Below w.heap.size w w':=by
 have HS:=zN hS
 obtain⟨p1,d1,p2,d2,rfl,_⟩:=hS
 have hb8:(r == R)=false:=by rw[beq_eq_false_iff_ne];exact hne
 have hb9:(R == r)=false:=by rw[beq_eq_false_iff_ne];exact fun e=>hne e.symm
 clear hne
 go_enter Tryz.func44,Tryz.ntmps44
 go_wp2_with fail
 have hb0:Below w.heap.size w ((w.alloc (.cells #[.int .i64 S.f,.int .i64 S.s,.int .i64 S.a,.slice p1 S.rows.length d1,.slice p2 S.targets.length d2] 27)).alloc (.cells #[.int .i64 C,.int .u64 D,.int .i64 A,.int .i64 r] 70)):=(by repeat (first|(with_reducible first|assumption|exact zBr _ _|refine zBs ?_ (by first|omega|simp<;>omega) _|refine zBa ?_ (by first|omega|simp<;>omega) _|apply zBd)|assumption))
 refine (HH.out _ _ hb0 (HS.out.below hb0)).mono ?_
 rintro e w1 ⟨rfl,hb1⟩
 have hB:Below w.heap.size w w1:=hb0.trans (hb1.mono hb0.size)
 have c0:w1.cell? ⟨w.heap.size+1,0,none⟩=some (.int .i64 C):=zP hb1 (by simp[zO,zJ,zQ])
 have c1:w1.cell? ⟨w.heap.size+1,1,none⟩=some (.int .u64 D):=zP hb1 (by simp[zO,zJ,zQ])
 have c2:w1.cell? ⟨w.heap.size+1,2,none⟩=some (.int .i64 A):=zP hb1 (by simp[zO,zJ,zQ])
 have c3:w1.cell? ⟨w.heap.size+1,3,none⟩=some (.int .i64 r):=zP hb1 (by simp[zO,zJ,zQ])
 have hlt:w.heap.size+1 < w1.heap.size:=zM _ _ c0
 have hne:¬ (w.heap.size+1=w1.heap.size):=by omega
 clear hb1 HH HS hb0
 go_wp2
 go_ret
 exact⟨rfl,(by repeat (first|(with_reducible first|assumption|exact zBr _ _|refine zBs ?_ (by first|omega|simp<;>omega) _|refine zBa ?_ (by first|omega|simp<;>omega) _|apply zBd)|assumption))⟩
theorem rver_err (S:Sy) (v:Value) (q p:Option Addr) (rl rc xc n:Nat) (w:World) (C D A R E c d a r:Int) (hne:E≠0) (hS:SysIn w v S)
  (HH:Hid (∀ w2 v2,Below w.heap.size w w2→SysIn w2 v2 S→Calls Tryz.prog 43 #[v2,.slice q rl rc,.slice p n xc] w2 fun e w'=>e=.returned (.tuple #[.agg #[.int .i64 C,.int .u64 D,.int .i64 A,.int .i64 R],.int .i64 E])∧Below w2.heap.size w2 w')) :
  Calls Tryz.prog 45 #[v,.slice q rl rc,.slice p n xc,.agg #[.int .i64 c,.int .u64 d,.int .i64 a,.int .i64 r]] w fun e w'=>e=.returned (.int .i64 E)∧Below w.heap.size w w':=by
 have HS:=zN hS
 obtain⟨p1,d1,p2,d2,rfl,_⟩:=hS
 have hbe:(E != 0)=true:=by rw[bne_iff_ne];exact hne
 clear hne
 go_enter Tryz.func45,Tryz.ntmps45
 go_wp2_with fail
 have hb0:Below w.heap.size w ((w.alloc (.cells #[.int .i64 S.f,.int .i64 S.s,.int .i64 S.a,.slice p1 S.rows.length d1,.slice p2 S.targets.length d2] 27)).alloc (.cells #[.int .i64 c,.int .u64 d,.int .i64 a,.int .i64 r] 70)):=(by repeat (first|(with_reducible first|assumption|exact zBr _ _|refine zBs ?_ (by first|omega|simp<;>omega) _|refine zBa ?_ (by first|omega|simp<;>omega) _|apply zBd)|assumption))
 refine (HH.out _ _ hb0 (HS.out.below hb0)).mono ?_
 rintro e w1 ⟨rfl,hb1⟩
 have hB:Below w.heap.size w w1:=hb0.trans (hb1.mono hb0.size)
 have c0:w1.cell? ⟨w.heap.size+1,0,none⟩=some (.int .i64 c):=zP hb1 (by simp[zO,zJ,zQ])
 have c1:w1.cell? ⟨w.heap.size+1,1,none⟩=some (.int .u64 d):=zP hb1 (by simp[zO,zJ,zQ])
 have c2:w1.cell? ⟨w.heap.size+1,2,none⟩=some (.int .i64 a):=zP hb1 (by simp[zO,zJ,zQ])
 have c3:w1.cell? ⟨w.heap.size+1,3,none⟩=some (.int .i64 r):=zP hb1 (by simp[zO,zJ,zQ])
 have hlt:w.heap.size+1 < w1.heap.size:=zM _ _ c0
 have hne:¬ (w.heap.size+1=w1.heap.size):=by omega
 clear hb1 HH HS hb0
 go_wp2
 go_ret
 exact⟨rfl,(by repeat (first|(with_reducible first|assumption|exact zBr _ _|refine zBs ?_ (by first|omega|simp<;>omega) _|refine zBa ?_ (by first|omega|simp<;>omega) _|apply zBd)|assumption))⟩
theorem rver_same (S:Sy) (v:Value) (q p:Option Addr) (rl rc xc n:Nat) (w:World) (C D A R E:Int) (hS:SysIn w v S)
  (HH:Hid (∀ w2 v2,Below w.heap.size w w2→SysIn w2 v2 S→Calls Tryz.prog 43 #[v2,.slice q rl rc,.slice p n xc] w2 fun e w'=>e=.returned (.tuple #[.agg #[.int .i64 C,.int .u64 D,.int .i64 A,.int .i64 R],.int .i64 0])∧Below w2.heap.size w2 w')) :
  Calls Tryz.prog 45 #[v,.slice q rl rc,.slice p n xc,.agg #[.int .i64 C,.int .u64 D,.int .i64 A,.int .i64 R]] w fun e w'=>e=.returned (.int .i64 0)∧Below w.heap.size w w':=by
 have HS:=zN hS
 obtain⟨p1,d1,p2,d2,rfl,_⟩:=hS
 go_enter Tryz.func45,Tryz.ntmps45
 go_wp2_with fail
 have hb0:Below w.heap.size w ((w.alloc (.cells #[.int .i64 S.f,.int .i64 S.s,.int .i64 S.a,.slice p1 S.rows.length d1,.slice p2 S.targets.length d2] 27)).alloc (.cells #[.int .i64 C,.int .u64 D,.int .i64 A,.int .i64 R] 70)):=(by repeat (first|(with_reducible first|assumption|exact zBr _ _|refine zBs ?_ (by first|omega|simp<;>omega) _|refine zBa ?_ (by first|omega|simp<;>omega) _|apply zBd)|assumption))
 refine (HH.out _ _ hb0 (HS.out.below hb0)).mono ?_
 rintro e w1 ⟨rfl,hb1⟩
 have hB:Below w.heap.size w w1:=hb0.trans (hb1.mono hb0.size)
 have c0:w1.cell? ⟨w.heap.size+1,0,none⟩=some (.int .i64 C):=zP hb1 (by simp[zO,zJ,zQ])
 have c1:w1.cell? ⟨w.heap.size+1,1,none⟩=some (.int .u64 D):=zP hb1 (by simp[zO,zJ,zQ])
 have c2:w1.cell? ⟨w.heap.size+1,2,none⟩=some (.int .i64 A):=zP hb1 (by simp[zO,zJ,zQ])
 have c3:w1.cell? ⟨w.heap.size+1,3,none⟩=some (.int .i64 R):=zP hb1 (by simp[zO,zJ,zQ])
 have hlt:w.heap.size+1 < w1.heap.size:=zM _ _ c0
 have hne:¬ (w.heap.size+1=w1.heap.size):=by omega
 clear hb1 HH HS hb0
 go_wp2
 go_ret
 exact⟨rfl,(by repeat (first|(with_reducible first|assumption|exact zBr _ _|refine zBs ?_ (by first|omega|simp<;>omega) _|refine zBa ?_ (by first|omega|simp<;>omega) _|apply zBd)|assumption))⟩
theorem rver_anchor (S:Sy) (v:Value) (q p:Option Addr) (rl rc xc n:Nat) (w:World) (C D A R E a r:Int) (hne:a≠A) (hS:SysIn w v S)
  (HH:Hid (∀ w2 v2,Below w.heap.size w w2→SysIn w2 v2 S→Calls Tryz.prog 43 #[v2,.slice q rl rc,.slice p n xc] w2 fun e w'=>e=.returned (.tuple #[.agg #[.int .i64 C,.int .u64 D,.int .i64 A,.int .i64 R],.int .i64 0])∧Below w2.heap.size w2 w')) :
  Calls Tryz.prog 45 #[v,.slice q rl rc,.slice p n xc,.agg #[.int .i64 C,.int .u64 D,.int .i64 a,.int .i64 r]] w fun e w'=>e=.returned (.int .i64 12)∧Below w.heap.size w w':=by
 have HS:=zN hS
 obtain⟨p1,d1,p2,d2,rfl,_⟩:=hS
 have hb8:(a == A)=false:=by rw[beq_eq_false_iff_ne];exact hne
 have hb9:(A == a)=false:=by rw[beq_eq_false_iff_ne];exact fun e=>hne e.symm
 clear hne
 go_enter Tryz.func45,Tryz.ntmps45
 go_wp2_with fail
 have hb0:Below w.heap.size w ((w.alloc (.cells #[.int .i64 S.f,.int .i64 S.s,.int .i64 S.a,.slice p1 S.rows.length d1,.slice p2 S.targets.length d2] 27)).alloc (.cells #[.int .i64 C,.int .u64 D,.int .i64 a,.int .i64 r] 70)):=(by repeat (first|(with_reducible first|assumption|exact zBr _ _|refine zBs ?_ (by first|omega|simp<;>omega) _|refine zBa ?_ (by first|omega|simp<;>omega) _|apply zBd)|assumption))
 refine (HH.out _ _ hb0 (HS.out.below hb0)).mono ?_
 rintro e w1 ⟨rfl,hb1⟩
 have hB:Below w.heap.size w w1:=hb0.trans (hb1.mono hb0.size)
 have c0:w1.cell? ⟨w.heap.size+1,0,none⟩=some (.int .i64 C):=zP hb1 (by simp[zO,zJ,zQ])
 have c1:w1.cell? ⟨w.heap.size+1,1,none⟩=some (.int .u64 D):=zP hb1 (by simp[zO,zJ,zQ])
 have c2:w1.cell? ⟨w.heap.size+1,2,none⟩=some (.int .i64 a):=zP hb1 (by simp[zO,zJ,zQ])
 have c3:w1.cell? ⟨w.heap.size+1,3,none⟩=some (.int .i64 r):=zP hb1 (by simp[zO,zJ,zQ])
 have hlt:w.heap.size+1 < w1.heap.size:=zM _ _ c0
 have hne:¬ (w.heap.size+1=w1.heap.size):=by omega
 clear hb1 HH HS hb0
 go_wp2
 go_ret
 exact⟨rfl,(by repeat (first|(with_reducible first|assumption|exact zBr _ _|refine zBs ?_ (by first|omega|simp<;>omega) _|refine zBa ?_ (by first|omega|simp<;>omega) _|apply zBd)|assumption))⟩
theorem rver_radius (S:Sy) (v:Value) (q p:Option Addr) (rl rc xc n:Nat) (w:World) (C D A R E r:Int) (hne:r≠R) (hS:SysIn w v S)
  (HH:Hid (∀ w2 v2,Below w.heap.size w w2→SysIn w2 v2 S→Calls Tryz.prog 43 #[v2,.slice q rl rc,.slice p n xc] w2 fun e w'=>e=.returned (.tuple #[.agg #[.int .i64 C,.int .u64 D,.int .i64 A,.int .i64 R],.int .i64 0])∧Below w2.heap.size w2 w')) :
  Calls Tryz.prog 45 #[v,.slice q rl rc,.slice p n xc,.agg #[.int .i64 C,.int .u64 D,.int .i64 A,.int .i64 r]] w fun e w'=>e=.returned (.int .i64 12)∧Below w.heap.size w w':=by
 have HS:=zN hS
 obtain⟨p1,d1,p2,d2,rfl,_⟩:=hS
 have hb8:(r == R)=false:=by rw[beq_eq_false_iff_ne];exact hne
 have hb9:(R == r)=false:=by rw[beq_eq_false_iff_ne];exact fun e=>hne e.symm
 clear hne
 go_enter Tryz.func45,Tryz.ntmps45
 go_wp2_with fail
 have hb0:Below w.heap.size w ((w.alloc (.cells #[.int .i64 S.f,.int .i64 S.s,.int .i64 S.a,.slice p1 S.rows.length d1,.slice p2 S.targets.length d2] 27)).alloc (.cells #[.int .i64 C,.int .u64 D,.int .i64 A,.int .i64 r] 70)):=(by repeat (first|(with_reducible first|assumption|exact zBr _ _|refine zBs ?_ (by first|omega|simp<;>omega) _|refine zBa ?_ (by first|omega|simp<;>omega) _|apply zBd)|assumption))
 refine (HH.out _ _ hb0 (HS.out.below hb0)).mono ?_
 rintro e w1 ⟨rfl,hb1⟩
 have hB:Below w.heap.size w w1:=hb0.trans (hb1.mono hb0.size)
 have c0:w1.cell? ⟨w.heap.size+1,0,none⟩=some (.int .i64 C):=zP hb1 (by simp[zO,zJ,zQ])
 have c1:w1.cell? ⟨w.heap.size+1,1,none⟩=some (.int .u64 D):=zP hb1 (by simp[zO,zJ,zQ])
 have c2:w1.cell? ⟨w.heap.size+1,2,none⟩=some (.int .i64 A):=zP hb1 (by simp[zO,zJ,zQ])
 have c3:w1.cell? ⟨w.heap.size+1,3,none⟩=some (.int .i64 r):=zP hb1 (by simp[zO,zJ,zQ])
 have hlt:w.heap.size+1 < w1.heap.size:=zM _ _ c0
 have hne:¬ (w.heap.size+1=w1.heap.size):=by omega
 clear hb1 HH HS hb0
 go_wp2
 go_ret
 exact⟨rfl,(by repeat (first|(with_reducible first|assumption|exact zBr _ _|refine zBs ?_ (by first|omega|simp<;>omega) _|refine zBa ?_ (by first|omega|simp<;>omega) _|apply zBd)|assumption))⟩
def slotO:Nat→Nat
 |8=>10
 |j=>j+32
def oF (vq vm:Value) (B:Nat) (C D a:Int) (Z:List Int) (n base:Nat):Nat→Value→World→Prop
 |0,x,_=>x=vq
 |1,x,_=>x=vm
 |2,x,w=>∃ p c,x=.slice p n c∧VecAt w p Z
 |3,x,_=>x=.agg #[.int .i64 C,.int .u64 D]
 |4,x,_=>x=.pointer (some ⟨B,0,none⟩)
 |5,x,_=>x=.pointer (some ⟨B,2,none⟩)
 |6,x,_=>x=.int .i64 a
 |7,x,_=>x=.agg #[.int .i64 C,.int .u64 D,.int .i64 a,.int .i64 0]
 |8,x,w=>∃ o,base≤o∧x=.pointer (some ⟨o,0,none⟩)∧CertAt w o 0 0 0 0
 |_,_,_=>True
theorem oF.keep {vq vm:Value} {B:Nat} {C D a:Int} {Z:List Int} {n base j:Nat} {x:Value} {w w':World} (h:oF vq vm B C D a Z n base j x w) (hb:Below w.heap.size w w'):oF vq vm B C D a Z n base j x w':=by
 unfold oF at *
 split at h
 all_goals first
  |exact h
  |(obtain⟨p,c,h1,h2⟩:=h;exact⟨p,c,h1,h2.below hb⟩)
  |(obtain⟨o,h1,h2,h3⟩:=h;exact⟨o,h1,h2,h3.below hb⟩)
def OI (W:World) (vq vm:Value) (B:Nat) (C D a:Int) (Z:List Int) (n:Nat) (ds:List Deferred) (d:Nat→Bool) (ac:Act) (w:World):Prop:=
 ∃ xs:List Value,xs.length=54∧ac=⟨xs.toArray,ds⟩∧xs.getD 1 undef=vq∧xs.getD 3 undef=.pointer (some ⟨B,0,none⟩)∧xs.getD 6 undef=.pointer (some ⟨B+1,0,none⟩)∧xs.getD 8 undef=vm∧
  ((d 9=false∧Below W.heap.size W w∧∀ j,j < 9→d j=true→oF vq vm B C D a Z n W.heap.size j (xs.getD (slotO j) undef) w)∨
   ((∀ j,j < 9→d j=true)∧d 9=true∧Below W.heap.size W w∧∃ o,W.heap.size≤o∧xs.getD 10 undef=.pointer (some ⟨o,0,none⟩)∧CertAt w o C D a 0))
theorem OI.live {W:World} {vq vm:Value} {B:Nat} {C D a:Int} {Z:List Int} {n:Nat} {ds:List Deferred} {d:Nat→Bool} {ac:Act} {w:World} (h:OI W vq vm B C D a Z n ds d ac w) {i:Nat} (hi:i≤9) (hd:d i=false) :
  Below W.heap.size W w∧ac.tmps[1]?.getD undef=vq∧ac.tmps[3]?.getD undef=.pointer (some ⟨B,0,none⟩)∧ac.tmps[8]?.getD undef=vm∧∀ j t,t=slotO j→j < 9→d j=true→oF vq vm B C D a Z n W.heap.size j (ac.tmps[t]?.getD undef) w:=by
 obtain⟨xs,hl,rfl,h1,h3,h6,h8,⟨_,hw,hq⟩|⟨ha,hb,_⟩⟩:=h
 ·refine⟨hw,by rw[tmps_list];exact h1,by rw[tmps_list];exact h3,by rw[tmps_list];exact h8,fun j t ht hj hdj=>?_⟩
  subst ht
  rw[tmps_list]
  exact hq j hj hdj
 ·exfalso
  rcases Nat.lt_or_eq_of_le hi with h|h
  ·rw[ha i h] at hd;cases hd
  ·subst h;rw[hb] at hd;cases hd
theorem slotO_lt {j:Nat} (h:j < 9):slotO j < 54∧slotO j≠1∧slotO j≠3∧slotO j≠6∧slotO j≠8:=by
 unfold slotO;split<;>omega
theorem slotO_inj {i j:Nat} (hi:i < 9) (hj:j < 9) (h:slotO i=slotO j):i=j:=by
 unfold slotO at h;split at h<;>split at h<;>omega
theorem OI.put {W:World} {vq vm:Value} {B:Nat} {C D a:Int} {Z:List Int} {n:Nat} {ds:List Deferred} {d:Nat→Bool} {ac:Act} {w w':World} {j:Nat} {v:Value} (h:OI W vq vm B C D a Z n ds d ac w) (hj:j < 9) (hd0:d j=false)
  (hv:oF vq vm B C D a Z n W.heap.size j v w') (hb:Below w.heap.size w w'):OI W vq vm B C D a Z n ds (fun i=>i == j || d i) (ac.put (some (slotO j)) v) w':=by
 obtain⟨xs,hl,rfl,h1,h3,h6,h8,⟨h9,hw,hq⟩|⟨ha,_,_⟩⟩:=h
 ·obtain⟨k0,k1,k3,k6,k8⟩:=slotO_lt hj
  refine⟨xs.set (slotO j) v,by simpa using hl,by simp[Act.put],?_,?_,?_,?_,.inl ⟨?_,hw.trans (hb.mono hw.size),fun i hi hd=>?_⟩⟩
  ·rw[List.getD_eq_getElem?_getD,List.getElem?_set_ne k1,←List.getD_eq_getElem?_getD];exact h1
  ·rw[List.getD_eq_getElem?_getD,List.getElem?_set_ne k3,←List.getD_eq_getElem?_getD];exact h3
  ·rw[List.getD_eq_getElem?_getD,List.getElem?_set_ne k6,←List.getD_eq_getElem?_getD];exact h6
  ·rw[List.getD_eq_getElem?_getD,List.getElem?_set_ne k8,←List.getD_eq_getElem?_getD];exact h8
  ·have hne:(9 == j)=false:=by rw[beq_eq_false_iff_ne];omega
   show (9 == j || d 9)=false
   rw[hne,h9];rfl
  ·by_cases hij:i=j
   ·subst hij
    rw[List.getD_eq_getElem?_getD,List.getElem?_set_self (by omega)];exact hv
   ·rw[List.getD_eq_getElem?_getD,List.getElem?_set_ne (fun e=>hij (slotO_inj hi hj e.symm)),←List.getD_eq_getElem?_getD]
    exact (hq i hi (by simpa[hij] using hd)).keep hb
 ·rw[ha j hj] at hd0;cases hd0
theorem OI.store {W:World} {vq vm:Value} {B:Nat} {C D a:Int} {Z:List Int} {n:Nat} {ds:List Deferred} {d:Nat→Bool} {ac:Act} {w:World} (h:OI W vq vm B C D a Z n ds d ac w) (hd9:d 9=false) (hall:∀ j,j < 9→d j=true) {o:Nat}
  (ho:ac.tmps[10]?.getD undef=.pointer (some ⟨o,0,none⟩)) (hW:W.heap.size≤o) (hC:CertAt w o 0 0 0 0) :
  OI W vq vm B C D a Z n ds (fun i=>i == 9 || d i) ac ((((w.setCell ⟨o,0,none⟩ (.int .i64 C)).setCell ⟨o,1,none⟩ (.int .u64 D)).setCell ⟨o,2,none⟩ (.int .i64 a)).setCell ⟨o,3,none⟩ (.int .i64 0)):=by
 obtain⟨xs,hl,rfl,h1,h3,h6,h8,⟨_,hw,_⟩|⟨_,hb,_⟩⟩:=h
 ·rw[tmps_list] at ho
  exact⟨xs,hl,rfl,h1,h3,h6,h8,.inr ⟨fun j hj=>by show (j == 9 || d j)=true;rw[hall j hj];simp,by simp,(((hw.setCell hW _).setCell hW _).setCell hW _).setCell hW _,o,hW,ho,hC.put C D a 0⟩⟩
 ·rw[hd9] at hb;cases hb
theorem rof_ok (S:Sy) (v:Value) (q p:Option Addr) (R x:List Int) (rc xc n:Nat) (w:World) (hS:SysIn w v S) (hok:SyOk S) (hV:VecAt w p x) (hvo:VecOk S.f S.s S.a x) (hU:VecAt w q R) (hxl:x.length=n) (hRl:R.length=n) (hRB:Bd 144115188075855872 R)
  (C D:Int) (hCD:wv (dotL (lessL R (multL S x)) (lessL R (multL S x)))=.agg #[.int .i64 C,.int .u64 D]) (hrad:RadOk C D S.a) (hD0:0≤D) (hD1:D≤18446744073709551615) (hsq:C*18446744073709551616+D=dotL (lessL R (multL S x)) (lessL R (multL S x))) :
  Calls Tryz.prog 43 #[v,.slice q n rc,.slice p n xc] w fun e w'=>e=.returned (.tuple #[.agg #[.int .i64 C,.int .u64 D,.int .i64 S.a,.int .i64 (radN (dotL (lessL R (multL S x)) (lessL R (multL S x))) S.a:Int)],.int .i64 0])∧Below w.heap.size w w':=by
 have hvn:=vecOk_n hok hvo
 have HH:Hid (∀ w2 v2,SysIn w2 v2 S→VecAt w2 p x→Calls Tryz.prog 27 #[v2,.slice p n xc] w2 fun e w'=>∃ N,e=.returned (.tuple #[.slice (some ⟨N,0,none⟩) n n,.int .i64 0])∧IntsAt w' N 0 (multL S x)∧w2.heap.size≤N∧Below w2.heap.size w2 w'):=zN (fun w2 v2 h2 h3=>by
  have h:=rmult_ok S v2 p x xc w2 h2 hok h3 hvo
  rw[←hvn,hxl] at h;exact h)
 have HS:=zN hS
 have HV:=zN (And.intro hV hU)
 have hMB:=multL_bd hok hvo
 have hML:(multL S x).length=n:=by rw[multL_len,hxl]
 have hn1:n≤1000:=by have:=hok.nodes;omega
 have hn0:1≤n:=by have:=hok.nodes;omega
 obtain⟨M,hM⟩:∃ M,M=multL S x:=⟨_,rfl⟩
 rw[←hM] at HH hMB hML hCD hsq ⊢
 have HLE:Hid (∀ Nm w2,VecAt w2 q R→VecAt w2 (some ⟨Nm,0,none⟩) M→Calls Tryz.prog 80 #[.slice q n rc,.slice (some ⟨Nm,0,none⟩) n n] w2 fun e w'=>∃ p c,e=.returned (.slice p n c)∧VecAt w' p (lessL R M)∧Below w2.heap.size w2 w'):=zN (fun Nm w2 h1 h2=>by
  refine (rless23_any q _ R M n rc n w2 hRl hML h1 h2 (by omega) (hRB.mono (by omega)) (hMB.mono (by omega))).mono ?_
  rintro e w' ⟨u,rfl,hr,hb⟩
  obtain⟨p',c',rfl,_,hv⟩:=hr.rdI
  rw[lessL_len (by omega),hRl]
  exact⟨p',c',rfl,hv,hb⟩)
 obtain⟨Z,hZe⟩:∃ Z,Z=lessL R M:=⟨_,rfl⟩
 rw[←hZe] at HLE hCD hsq ⊢
 have hZL:Z.length=n:=by rw[hZe,lessL_len (by omega),hRl]
 have hZB:I64L Z:=fun z hz=>by
  have:=lessL_bd hRB hMB z (by rw[←hZe];exact hz);omega
 have HQ:Hid (∀ p' c' w2,VecAt w2 p' Z→Calls Tryz.prog 47 #[.slice p' n c'] w2 fun e w'=>e=.returned (.agg #[.int .i64 C,.int .u64 D])∧Below w2.heap.size w2 w'):=zN (fun p' c' w2 h=>by
  have h9:=rsquare_any p' Z c' n w2 hZL h (by omega) hZB
  rw[hCD] at h9;exact h9)
 obtain⟨a,ha⟩:∃ a,a=S.a:=⟨_,rfl⟩
 have HAE:=zN ha
 rw[←ha] at hrad ⊢
 have HR:Hid (∀ w2,Calls Tryz.prog 41 #[.agg #[.int .i64 C,.int .u64 D],.int .i64 a] w2 fun e w'=>e=.returned (.tuple #[.int .i64 (radN (dotL Z Z) a:Int),.int .i64 0])∧Below w2.heap.size w2 w'):=zN (fun w2=>by
  have h9:=rradius_ok C D a w2 hD0 hD1 hrad
  rw[hsq] at h9;exact h9)
 obtain⟨rr,hrr⟩:∃ rr:Int,rr=(radN (dotL Z Z) a:Int):=⟨_,rfl⟩
 rw[←hrr] at HR ⊢
 have HSM:Hid (∀ w2,VecAt w2 q R→Calls Tryz.prog 92 #[.slice q n rc,.int .i64 144115188075855872] w2 fun e w'=>e=.returned (.bool true)∧w2=w'):=zN (fun w2 h=>by
  have h9:=rsmall_any 144115188075855872 (by omega) q R rc w2 h (by omega) (i64_bd hRB (by omega))
  rw[hRl] at h9
  refine h9.mono ?_
  rintro e w' ⟨rfl,h8⟩
  refine⟨?_,h8⟩
  rw[zDt (show ∀ x∈R,-144115188075855872≤x∧x≤144115188075855872 from hRB)])
 obtain⟨p1,d1,p2,d2,rfl,_⟩:=hS
 rw[←ha]
 clear hM hZe hrr ha hZL hZB hsq hrad hD0 hD1 hCD hok hvo hvn hxl hRl hRB hV hU hMB
 have hnn:((n:Int) != (n:Int))=false:=by simp
 go_enter Tryz.func43,Tryz.ntmps43
 go_wp2_with fail
 have hb0:Below w.heap.size w ((w.alloc (.cells #[.int .i64 S.f,.int .i64 S.s,.int .i64 a,.slice p1 S.rows.length d1,.slice p2 S.targets.length d2] 27)).alloc (.cells #[.int .i64 0,.int .u64 0,.int .i64 0,.int .i64 0] 70)):=(by repeat (first|(with_reducible first|assumption|exact zBr _ _|refine zBs ?_ (by first|omega|simp<;>omega) _|refine zBa ?_ (by first|omega|simp<;>omega) _|apply zBd)|assumption))
 have hP0:=CertAt.new (w.alloc (.cells #[.int .i64 S.f,.int .i64 S.s,.int .i64 a,.slice p1 S.rows.length d1,.slice p2 S.targets.length d2] 27)) 0 0 0 0
 rw[World.size_alloc] at hP0
 refine (HH.out _ _ (by rw[HAE.out];exact HS.out.below (by repeat (first|(with_reducible first|assumption|exact zBr _ _|refine zBs ?_ (by first|omega|simp<;>omega) _|refine zBa ?_ (by first|omega|simp<;>omega) _|apply zBd)|assumption))) (HV.out.1.below hb0)).mono ?_
 rintro e w1 ⟨Nm,rfl,hIm,hNm,hb1⟩
 have hPN:=hP0.below hb1
 have hB:Below w.heap.size w w1:=hb0.trans (hb1.mono hb0.size)
 have c2:w1.cell? ⟨w.heap.size,2,none⟩=some (.int .i64 a):=zP hb1 (by simp[zO,zJ,zQ])
 have HVM:Hid (VecAt w1 (some ⟨Nm,0,none⟩) M):=zN (vec_of_ints hIm)
 have hsw:w.heap.size+1 < w1.heap.size:=zM _ _ hPN.1
 clear hb1 hb0 hP0 HH HS hIm hNm
 go_wp2_with fail
 refine (HSM.out _ (HV.out.2.below hB)).mono ?_
 rintro e w2 ⟨rfl,rfl⟩
 have HC2:=zN c2
 have HPN:=zN hPN
 have HB:=zN hB
 have HVR:=zN (HV.out.2.below hB)
 clear HSM c2 hPN hB
 go_wp2_with fail
 refine RX.regionI (OI w1 (.slice q n rc) (.slice (some ⟨Nm,0,none⟩) n n) w.heap.size C D a Z n []) (by kernel_rfl) (by kernel_rfl) ?_ ?_ ?_
 ·exact⟨_,rfl,rfl,rfl,rfl,rfl,rfl,.inl ⟨rfl,(zBr _ _).drew,fun j _ h=>absurd h (by simp)⟩⟩
 ·refine⟨?_,?_,?_,?_,?_,?_,?_,?_,?_,?_,trivial⟩
  ·intro d ac w' hd hdep hI
   obtain⟨hw,a1,a3,a8,hq⟩:=hI.live (i:=0) (by omega) hd
   go_wp2
   exact hI.put (j:=0) (by omega) hd rfl (zBr _ _)
  ·intro d ac w' hd hdep hI
   obtain⟨hw,a1,a3,a8,hq⟩:=hI.live (i:=1) (by omega) hd
   go_wp2
   exact hI.put (j:=1) (by omega) hd rfl (zBr _ _)
  ·intro d ac w' hd hdep hI
   obtain⟨hw,a1,a3,a8,hq⟩:=hI.live (i:=2) (by omega) hd
   have ea:ac.tmps[32]?.getD undef=.slice q n rc:=hq 0 32 rfl (by omega) (hdep ⟨0,.data⟩ (by simp) rfl)
   have eb:ac.tmps[33]?.getD undef=.slice (some ⟨Nm,0,none⟩) n n:=hq 1 33 rfl (by omega) (hdep ⟨1,.data⟩ (by simp) rfl)
   go_wp2_with fail
   refine (HLE.out Nm w' (HVR.out.below hw) (HVM.out.below hw)).mono ?_
   rintro e w5 ⟨p',c',rfl,hv,hb⟩
   exact hI.put (j:=2) (by omega) hd ⟨p',c',rfl,hv⟩ hb
  ·intro d ac w' hd hdep hI
   obtain⟨hw,a1,a3,a8,hq⟩:=hI.live (i:=3) (by omega) hd
   obtain⟨p',c',ea,hv⟩:∃ p' c',ac.tmps[34]?.getD undef=.slice p' n c'∧VecAt w' p' Z:=hq 2 34 rfl (by omega) (hdep ⟨2,.data⟩ (by simp) rfl)
   go_wp2_with fail
   refine (HQ.out p' c' w' hv).mono ?_
   rintro e w5 ⟨rfl,hb⟩
   exact hI.put (j:=3) (by omega) hd rfl hb
  ·intro d ac w' hd hdep hI
   obtain⟨hw,a1,a3,a8,hq⟩:=hI.live (i:=4) (by omega) hd
   go_wp2
   exact hI.put (j:=4) (by omega) hd rfl (zBr _ _)
  ·intro d ac w' hd hdep hI
   obtain⟨hw,a1,a3,a8,hq⟩:=hI.live (i:=5) (by omega) hd
   have ea:ac.tmps[36]?.getD undef=.pointer (some ⟨w.heap.size,0,none⟩):=hq 4 36 rfl (by omega) (hdep ⟨4,.data⟩ (by simp) rfl)
   go_wp2
   exact hI.put (j:=5) (by omega) hd rfl (zBr _ _)
  ·intro d ac w' hd hdep hI
   obtain⟨hw,a1,a3,a8,hq⟩:=hI.live (i:=6) (by omega) hd
   have ea:ac.tmps[37]?.getD undef=.pointer (some ⟨w.heap.size,2,none⟩):=hq 5 37 rfl (by omega) (hdep ⟨5,.data⟩ (by simp) rfl)
   have r:=zP hw HC2.out
   go_wp2
   exact hI.put (j:=6) (by omega) hd rfl (zBr _ _)
  ·intro d ac w' hd hdep hI
   obtain⟨hw,a1,a3,a8,hq⟩:=hI.live (i:=7) (by omega) hd
   have ea:ac.tmps[35]?.getD undef=.agg #[.int .i64 C,.int .u64 D]:=hq 3 35 rfl (by omega) (hdep ⟨3,.data⟩ (by simp) rfl)
   have eb:ac.tmps[38]?.getD undef=.int .i64 a:=hq 6 38 rfl (by omega) (hdep ⟨6,.data⟩ (by simp) rfl)
   go_wp2
   exact hI.put (j:=7) (by omega) hd rfl (zBr _ _)
  ·intro d ac w' hd hdep hI
   obtain⟨hw,a1,a3,a8,hq⟩:=hI.live (i:=8) (by omega) hd
   go_wp2
   exact hI.put (j:=8) (by omega) hd ⟨w'.heap.size,hw.size,rfl,CertAt.new w' 0 0 0 0⟩ ((zBr _ _).alloc (Nat.le_refl _) _)
  ·intro d ac w' hd hdep hI
   obtain⟨hw,a1,a3,a8,hq⟩:=hI.live (i:=9) (by omega) hd
   have ea:ac.tmps[39]?.getD undef=.agg #[.int .i64 C,.int .u64 D,.int .i64 a,.int .i64 0]:=hq 7 39 rfl (by omega) (hdep ⟨7,.data⟩ (by simp) rfl)
   obtain⟨o,ho,eb,hc⟩:∃ o,w1.heap.size≤o∧ac.tmps[10]?.getD undef=.pointer (some ⟨o,0,none⟩)∧CertAt w' o 0 0 0 0:=hq 8 10 rfl (by omega) (hdep ⟨8,.data⟩ (by simp) rfl)
   have hc2:=zN hc
   obtain⟨r0,r1,r2,r3,s0,s1,s2,s3⟩:=hc
   have hall:∀ j,j < 9→d j=true:=by
    intro j hj
    have:j=0∨j=1∨j=2∨j=3∨j=4∨j=5∨j=6∨j=7∨j=8:=by omega
    rcases this with rfl|rfl|rfl|rfl|rfl|rfl|rfl|rfl|rfl
    all_goals first|exact hdep ⟨_,.phase⟩ (by simp) rfl|exact hdep ⟨_,.data⟩ (by simp) rfl
   go_wp2
   exact hI.store hd hall eb ho hc2.out
 ·intro d ac w' hall hI
  obtain⟨xs,hl,rfl,x1,x3,x6,x8,⟨h9,_⟩|⟨_,_,hbw,o,ho,x10,hc⟩⟩:=hI
  ·rw[hall 9 (by simp)] at h9;cases h9
  have ex6:xs[6]?=some (.pointer (some ⟨w.heap.size+1,0,none⟩)):=by
   rw[List.getD_eq_getElem?_getD,List.getElem?_eq_getElem (by omega)] at x6
   rw[List.getElem?_eq_getElem (by omega)];exact congrArg some x6
  have ex10:xs[10]?=some (.pointer (some ⟨o,0,none⟩)):=by
   rw[List.getD_eq_getElem?_getD,List.getElem?_eq_getElem (by omega)] at x10
   rw[List.getElem?_eq_getElem (by omega)];exact congrArg some x10
  have h7:7 < xs.length:=by omega
  have h9:9 < xs.length:=by omega
  have h40:40 < xs.length:=by omega
  have h41:41 < xs.length:=by omega
  have h42:42 < xs.length:=by omega
  have h43:43 < xs.length:=by omega
  have h44:44 < xs.length:=by omega
  have h45:45 < xs.length:=by omega
  have h46:46 < xs.length:=by omega
  have h47:47 < xs.length:=by omega
  have h48:48 < xs.length:=by omega
  have h49:49 < xs.length:=by omega
  have h50:50 < xs.length:=by omega
  have h51:51 < xs.length:=by omega
  have h52:52 < xs.length:=by omega
  have h53:53 < xs.length:=by omega
  clear hl x1 x3 x6 x8 x10 hall HLE HQ HVM HVR HV HC2
  have HPC:=zN hc
  have hPN:=HPN.out.below hbw
  have hBB:=HB.out.trans (hbw.mono HB.out.size)
  have hwo:w.heap.size+1 < o:=by omega
  obtain⟨r0,r1,r2,r3,s0,s1,s2,s3⟩:=hc
  clear hbw HB HPN
  go_wp2_with fail
  refine (HR.out _).mono ?_
  rintro e w4 ⟨rfl,hb5⟩
  have hPA:=HPC.out.below hb5
  have hPN4:=hPN.below hb5
  have hB4:=zN (hBB.trans (hb5.mono hBB.size))
  clear hb5 HPC hPN hBB r0 r1 r2 r3 s0 s1 s2 s3 HR
  obtain⟨r0,r1,r2,r3,s0,s1,s2,s3⟩:=hPA
  obtain⟨y0,y1,y2,y3,z0,z1,z2,z3⟩:=hPN4
  have hoi:¬ (o=w.heap.size+1):=by omega
  have hio:¬ (w.heap.size+1=o):=by omega
  go_wp2
  refine wp_cond_false (by simp[Act.eval,h50]) ?_
  have hx0:=zP (zBr w4.heap.size w4) r0
  clear hx0
  have g3:(w4.setCell ⟨o,3,none⟩ (.int .i64 rr)).cell? ⟨o,3,none⟩=some (.int .i64 rr):=zL _ _ _ (by rw[r3];rfl)
  have HFIN:Hid (CertAt (((((w4.setCell ⟨o,3,none⟩ (.int .i64 rr)).setCell ⟨w.heap.size+1,0,none⟩ (.int .i64 C)).setCell ⟨w.heap.size+1,1,none⟩ (.int .u64 D)).setCell ⟨w.heap.size+1,2,none⟩ (.int .i64 a)).setCell ⟨w.heap.size+1,3,none⟩ (.int .i64 rr)) (w.heap.size+1) C D a rr):=zN (by
   refine CertAt.put (c:=0) (d:=0) (a:=0) (r:=0) ?_ C D a rr
   have hg:=grownBy_setCell w4 o 3 (.int .i64 rr)
   refine⟨hg.cell y0 (by simp;exact hio),hg.cell y1 (by simp;exact hio),hg.cell y2 (by simp;exact hio),hg.cell y3 (by simp;exact hio),?_,?_,?_,?_⟩
   ·rw[World.frozen?_setCell];exact z0
   ·rw[World.frozen?_setCell];exact z1
   ·rw[World.frozen?_setCell];exact z2
   ·rw[World.frozen?_setCell];exact z3)
  have HBF:Hid (Below w.heap.size w (((((w4.setCell ⟨o,3,none⟩ (.int .i64 rr)).setCell ⟨w.heap.size+1,0,none⟩ (.int .i64 C)).setCell ⟨w.heap.size+1,1,none⟩ (.int .u64 D)).setCell ⟨w.heap.size+1,2,none⟩ (.int .i64 a)).setCell ⟨w.heap.size+1,3,none⟩ (.int .i64 rr))):=
   zN (((((hB4.out.setCell (by simp;omega) _).setCell (by simp) _).setCell (by simp) _).setCell (by simp) _).setCell (by simp) _)
  go_wp2
  obtain⟨t0,t1,t2,t3,-⟩:=HFIN.out
  refine bodyPost_ret (v:=.tuple #[.agg #[.int .i64 C,.int .u64 D,.int .i64 a,.int .i64 rr],.int .i64 0]) ?_ rfl ⟨rfl,HBF.out⟩
  simp[results,Tryz.results43,go_sem,t0,t1,t2,t3,ex6,h7]
def OfOk (S:Sy) (R x:List Int):Prop:=(SyOk S∧VecOk S.f S.s S.a x)∧R.length=x.length∧Bd 144115188075855872 R
def sqO (S:Sy) (R x:List Int):Int:=dotL (lessL R (multL S x)) (lessL R (multL S x))
open Classical in
noncomputable def ofC (S:Sy) (R x:List Int):Int:=if OfOk S R x then wrap64 (sqO S R x / 18446744073709551616) else 0
open Classical in
noncomputable def ofD (S:Sy) (R x:List Int):Int:=if OfOk S R x then sqO S R x % 18446744073709551616 else 0
open Classical in
noncomputable def ofA (S:Sy) (R x:List Int):Int:=if OfOk S R x then S.a else 0
open Classical in
noncomputable def ofR (S:Sy) (R x:List Int):Int:=if OfOk S R x then (radN (sqO S R x) S.a:Int) else 0
open Classical in
noncomputable def ofE (S:Sy) (R x:List Int):Int:=if OfOk S R x then 0 else if SyOk S∧VecOk S.f S.s S.a x then 1 else sxErr S x
theorem beyondB_true {R:List Int} (h:¬ Bd 144115188075855872 R):beyondB R=true:=by
 cases e:beyondB R with
 |true=>rfl
 |false=>
  exfalso
  refine h fun y hy=>?_
  unfold beyondB at e
  rw[List.any_eq_false] at e
  have:=e y hy
  simp at this
  omega
theorem sqO_bd {S:Sy} {R x:List Int} (h:OfOk S R x) (hx:x.length≤92):0≤sqO S R x∧sqO S R x≤21267647932558653966460912964485513216:=by
 obtain⟨⟨hok,hv⟩,hl,hR⟩:=h
 have h1:=dot_sq (B:=444115188075855872) (by omega) (lessL R (multL S x)) (lessL_bd hR (multL_bd hok hv))
 have h2:(lessL R (multL S x)).length=x.length:=by rw[lessL_len (by rw[multL_len,hl]),hl]
 rw[h2] at h1
 unfold sqO
 omega
theorem ofR_bd {S:Sy} {R x:List Int} (hx:x.length≤92):(0≤ofR S R x∧ofR S R x≤4611686018427387905)∧0≤ofA S R x∧ofA S R x≤1000000:=by
 unfold ofR ofA
 by_cases h:OfOk S R x
 ·rw[if_pos h,if_pos h]
  have hp:=h.1.1.1
  unfold PrOk at hp
  have hs:=sqO_bd h hx
  have hq0:0≤4611686018427387904 / S.a:=Int.ediv_nonneg (by omega) (by omega)
  have hq1:4611686018427387904 / S.a≤4611686018427387904:=Int.ediv_le_self _ (by omega)
  refine⟨⟨by omega,?_⟩,by omega,by omega⟩
  unfold radN
  by_cases e:∃ r,CertOf (sqO S R x) S.a r
  ·rw[dif_pos e]
   have:=(Classical.choose_spec e).1
   omega
  ·rw[dif_neg e];omega
 ·rw[if_neg h,if_neg h];omega
def certV (c d a r:Int):Value:=.agg #[.int .i64 c,.int .u64 d,.int .i64 a,.int .i64 r]
theorem ofV_yes {S:Sy} {R x:List Int} (h:OfOk S R x):ofC S R x=wrap64 (sqO S R x / 18446744073709551616)∧ofD S R x=sqO S R x % 18446744073709551616∧ofA S R x=S.a∧ofR S R x=(radN (sqO S R x) S.a:Int)∧ofE S R x=0:=⟨if_pos h,if_pos h,if_pos h,if_pos h,if_pos h⟩
theorem ofV_no {S:Sy} {R x:List Int} (h:¬ OfOk S R x):ofC S R x=0∧ofD S R x=0∧ofA S R x=0∧ofR S R x=0:=⟨if_neg h,if_neg h,if_neg h,if_neg h⟩
theorem cofA (S:Sy) (v:Value) (q p:Option Addr) (R x:List Int) (rc xc:Nat) (w:World) (hT:HasTab w) (hS:SysIn w v S) (hl:SyLen S) (hU:VecAt w q R) (hV:VecAt w p x) (hRI:I64L R) (hxI:I64L x) (hx:x.length≤92) (hRl:R.length≤1000) :
  Calls Tryz.prog 42 #[v,.slice q R.length rc,.slice p x.length xc] w fun e w'=>e=.returned (.tuple #[certV (ofC S R x) (ofD S R x) (ofA S R x) (ofR S R x),.int .i64 (ofE S R x)])∧Below w.heap.size w w':=by
 by_cases h:OfOk S R x
 ·obtain⟨e1,e2,e3,e4,e5⟩:=ofV_yes h
  rw[e1,e2,e3,e4,e5]
  obtain⟨⟨hok,hv⟩,hlen,hR⟩:=id h
  have hs:=sqO_bd h hx
  have h9:=cof_ok S v q p R x rc xc x.length w hT hS hok hV hv hU rfl hlen hR hs.2
  rw[hlen]
  refine h9.mono ?_
  rintro e w' ⟨C,D,r,h1,rfl,h2,hb⟩
  obtain⟨h3,h4⟩:wrap64 (sqO S R x / 18446744073709551616)=C∧sqO S R x % 18446744073709551616=D:=by
   have h5:wv (sqO S R x)=.agg #[.int .i64 C,.int .u64 D]:=h1
   unfold wv at h5
   simpa using h5
  rw[h3,h4,show radN (sqO S R x) S.a=r from radN_eq h2]
  exact⟨rfl,hb⟩
 ·obtain⟨e1,e2,e3,e4⟩:=ofV_no h
  rw[e1,e2,e3,e4,show ofE S R x=_ from if_neg h]
  by_cases hg:SyOk S∧VecOk S.f S.s S.a x
  ·rw[if_pos hg]
   obtain⟨hok,hv⟩:=hg
   refine cof_rng S v q p R x rc xc x.length R.length w hS hU rfl (by omega) hRI ?_ (zN (fun w2 v2 hb h2=>?_))
   ·by_cases hlen:R.length=x.length
    ·exact .inr ⟨hlen,beyondB_true (fun hB=>h ⟨⟨hok,hv⟩,hlen,hB⟩)⟩
    ·exact .inl hlen
   ·have h9:=cmult_ok S v2 p x xc w2 (hT.below hb) h2 hok (hV.below hb) hv
    rw[←vecOk_n hok hv] at h9
    refine h9.mono ?_
    rintro e w' ⟨N,rfl,_,_,hb2⟩
    exact⟨N,rfl,hb2⟩
  ·rw[if_neg hg]
   by_cases hE:sysErr S=0
   ·have hok:=syOk_iff.1 hE
    have hv:¬ VecOk S.f S.s S.a x:=fun e=>hg ⟨hok,e⟩
    rw[sxErr_vec hE hv]
    exact cof_no S v q p x R.length rc xc x.length w 1 (by omega) hS (zN (fun w2 v2 hb h2=>cmult_vec S v2 p x xc w2 h2 hok (hV.below hb) (by omega) hv))
   ·rw[sxErr_sys hE]
    exact cof_no S v q p x R.length rc xc x.length w (sysErr S) hE hS (zN (fun w2 v2 hb h2=>cmult_no S v2 p x xc w2 h2 hl hE))
theorem rofA (S:Sy) (v:Value) (q p:Option Addr) (R x:List Int) (rc xc:Nat) (w:World) (hS:SysIn w v S) (hl:SyLen S) (hU:VecAt w q R) (hV:VecAt w p x) (hRI:I64L R) (hxI:I64L x) (hx:x.length≤92) (hRl:R.length≤1000) :
  Calls Tryz.prog 43 #[v,.slice q R.length rc,.slice p x.length xc] w fun e w'=>e=.returned (.tuple #[certV (ofC S R x) (ofD S R x) (ofA S R x) (ofR S R x),.int .i64 (ofE S R x)])∧Below w.heap.size w w':=by
 by_cases h:OfOk S R x
 ·obtain⟨e1,e2,e3,e4,e5⟩:=ofV_yes h
  rw[e1,e2,e3,e4,e5]
  obtain⟨⟨hok,hv⟩,hlen,hR⟩:=id h
  have hs:=sqO_bd h hx
  have hp:=hok.1
  unfold PrOk at hp
  have hw:wrap64 (sqO S R x / 18446744073709551616)=sqO S R x / 18446744073709551616:=by unfold wrap64;omega
  rw[hlen]
  exact rof_ok S v q p R x rc xc x.length w hS hok hV hv hU rfl hlen hR _ _ rfl ⟨by omega,by omega,by rw[hw];omega,by rw[hw];omega⟩ (by omega) (by omega) (by
   rw[hw]
   show sqO S R x / 18446744073709551616*18446744073709551616+sqO S R x % 18446744073709551616=sqO S R x
   omega)
 ·obtain⟨e1,e2,e3,e4⟩:=ofV_no h
  rw[e1,e2,e3,e4,show ofE S R x=_ from if_neg h]
  by_cases hg:SyOk S∧VecOk S.f S.s S.a x
  ·rw[if_pos hg]
   obtain⟨hok,hv⟩:=hg
   refine rof_rng S v q p R x rc xc x.length R.length w hS hU rfl (by omega) hRI ?_ (zN (fun w2 v2 hb h2=>?_))
   ·by_cases hlen:R.length=x.length
    ·exact .inr ⟨hlen,beyondB_true (fun hB=>h ⟨⟨hok,hv⟩,hlen,hB⟩)⟩
    ·exact .inl hlen
   ·have h9:=rmult_ok S v2 p x xc w2 h2 hok (hV.below hb) hv
    rw[←vecOk_n hok hv] at h9
    refine h9.mono ?_
    rintro e w' ⟨N,rfl,_,_,hb2⟩
    exact⟨N,rfl,hb2⟩
  ·rw[if_neg hg]
   by_cases hE:sysErr S=0
   ·have hok:=syOk_iff.1 hE
    have hv:¬ VecOk S.f S.s S.a x:=fun e=>hg ⟨hok,e⟩
    rw[sxErr_vec hE hv]
    exact rof_no S v q p x R.length rc xc x.length w 1 (by omega) hS (zN (fun w2 v2 hb h2=>rmult_vec S v2 p x xc w2 h2 hok (hV.below hb) (by omega) hxI hv))
   ·rw[sxErr_sys hE]
    exact rof_no S v q p x R.length rc xc x.length w (sysErr S) hE hS (zN (fun w2 v2 hb h2=>rmult_no S v2 p x xc w2 h2 hl hE))
def verV (E A R a r:Int):Int:=if E≠0 then E else if a≠A then 12 else if r≠R then 12 else 0
theorem cverA (S:Sy) (v:Value) (q p:Option Addr) (rl rc xc n:Nat) (w:World) (C D A R E a r:Int) (hS:SysIn w v S)
  (HH:Hid (∀ w2 v2,Below w.heap.size w w2→SysIn w2 v2 S→Calls Tryz.prog 42 #[v2,.slice q rl rc,.slice p n xc] w2 fun e w'=>e=.returned (.tuple #[certV C D A R,.int .i64 E])∧Below w2.heap.size w2 w')) :
  Calls Tryz.prog 44 #[v,.slice q rl rc,.slice p n xc,certV C D a r] w fun e w'=>e=.returned (.int .i64 (verV E A R a r))∧Below w.heap.size w w':=by
 unfold verV
 by_cases hE:E=0
 ·subst hE
  rw[if_neg (by omega)]
  by_cases ha:a=A
  ·subst ha
   rw[if_neg (fun e=>e rfl)]
   by_cases hr:r=R
   ·subst hr
    rw[if_neg (fun e=>e rfl)]
    exact cver_same S v q p rl rc xc n w C D a r 0 hS HH
   ·rw[if_pos hr]
    exact cver_radius S v q p rl rc xc n w C D a R 0 r hr hS HH
  ·rw[if_pos ha]
   exact cver_anchor S v q p rl rc xc n w C D A R 0 a r ha hS HH
 ·rw[if_pos hE]
  exact cver_err S v q p rl rc xc n w C D A R E C D a r hE hS HH
theorem rverA (S:Sy) (v:Value) (q p:Option Addr) (rl rc xc n:Nat) (w:World) (C D A R E a r:Int) (hS:SysIn w v S)
  (HH:Hid (∀ w2 v2,Below w.heap.size w w2→SysIn w2 v2 S→Calls Tryz.prog 43 #[v2,.slice q rl rc,.slice p n xc] w2 fun e w'=>e=.returned (.tuple #[certV C D A R,.int .i64 E])∧Below w2.heap.size w2 w')) :
  Calls Tryz.prog 45 #[v,.slice q rl rc,.slice p n xc,certV C D a r] w fun e w'=>e=.returned (.int .i64 (verV E A R a r))∧Below w.heap.size w w':=by
 unfold verV
 by_cases hE:E=0
 ·subst hE
  rw[if_neg (by omega)]
  by_cases ha:a=A
  ·subst ha
   rw[if_neg (fun e=>e rfl)]
   by_cases hr:r=R
   ·subst hr
    rw[if_neg (fun e=>e rfl)]
    exact rver_same S v q p rl rc xc n w C D a r 0 hS HH
   ·rw[if_pos hr]
    exact rver_radius S v q p rl rc xc n w C D a R 0 r hr hS HH
  ·rw[if_pos ha]
   exact rver_anchor S v q p rl rc xc n w C D A R 0 a r ha hS HH
 ·rw[if_pos hE]
  exact rver_err S v q p rl rc xc n w C D A R E C D a r hE hS HH
theorem certwithin_no (C D a r:Int) (p q:Option Addr) (m n xc yc:Nat) (w:World) (hne:m≠n) :
  Calls Tryz.prog 48 #[.agg #[.int .i64 C,.int .u64 D,.int .i64 a,.int .i64 r],.slice p m xc,.slice q n yc] w fun e w'=>e=.returned (.bool false)∧Below w.heap.size w w':=by
 have hnn:((m:Int) != (n:Int))=true:=by rw[bne_iff_ne];omega
 clear hne
 go_enter Tryz.func48,Tryz.ntmps48
 go_wp2
 go_ret
 exact⟨rfl,(by repeat (first|(with_reducible first|assumption|exact zBr _ _|refine zBs ?_ (by first|omega|simp<;>omega) _|refine zBa ?_ (by first|omega|simp<;>omega) _|apply zBd)|assumption))⟩
theorem rwithin_no (C D a r:Int) (p q:Option Addr) (m n xc yc:Nat) (w:World) (hne:m≠n) :
  Calls Tryz.prog 49 #[.agg #[.int .i64 C,.int .u64 D,.int .i64 a,.int .i64 r],.slice p m xc,.slice q n yc] w fun e w'=>e=.returned (.bool false)∧Below w.heap.size w w':=by
 have hnn:((m:Int) != (n:Int))=true:=by rw[bne_iff_ne];omega
 clear hne
 go_enter Tryz.func49,Tryz.ntmps49
 go_wp2
 go_ret
 exact⟨rfl,(by repeat (first|(with_reducible first|assumption|exact zBr _ _|refine zBs ?_ (by first|omega|simp<;>omega) _|refine zBa ?_ (by first|omega|simp<;>omega) _|apply zBd)|assumption))⟩
theorem rwithin_ok (C D a r:Int) (p q:Option Addr) (x y:List Int) (xc yc n:Nat) (w:World) (hx:x.length=n) (hy:y.length=n) (hV:VecAt w p x) (hU:VecAt w q y) (hn:n≤1000) (hxb:Bd 1099511627776 x) (hyb:Bd 1099511627776 y) (hr0:0≤r) (hr1:r≤4611686018427387905) :
  Calls Tryz.prog 49 #[.agg #[.int .i64 C,.int .u64 D,.int .i64 a,.int .i64 r],.slice p n xc,.slice q n yc] w fun e w'=>e=.returned (.bool (decide (dotL (subL x y) (subL x y)≤r*r)))∧Below w.heap.size w w':=by
 have HL:Hid (∀ w2,VecAt w2 p x→VecAt w2 q y→Calls Tryz.prog 80 #[.slice p n xc,.slice q n yc] w2 fun e w'=>∃ v,e=.returned v∧RowV w' w2.heap.size v (subL x y)∧Below w2.heap.size w2 w'):=zN (fun w2 h1 h2=>rless23_any p q x y n xc yc w2 hx hy h1 h2 (by omega) (hxb.mono (by omega)) (hyb.mono (by omega)))
 have hzl:(subL x y).length=n:=by rw[subL_len (by omega),hx]
 have hzb:Bd 2199023255552 (subL x y):=fun z hz=>by
  unfold subL at hz
  rw[List.mem_iff_getElem] at hz
  obtain⟨i,hi,rfl⟩:=hz
  rw[List.length_zipWith] at hi
  rw[List.getElem_zipWith]
  have:=hxb _ (List.getElem_mem (show i < x.length by omega))
  have:=hyb _ (List.getElem_mem (show i < y.length by omega))
  omega
 obtain⟨Z,hZ⟩:∃ Z,Z=subL x y:=⟨_,rfl⟩
 rw[←hZ] at HL hzl hzb ⊢
 have HSQ:Hid (∀ p' c' w2,VecAt w2 p' Z→Calls Tryz.prog 47 #[.slice p' n c'] w2 fun e w'=>e=.returned (wv (dotL Z Z))∧Below w2.heap.size w2 w'):=zN (fun p' c' w2 h=>rsquare_any p' Z c' n w2 hzl h (by omega) (i64_bd hzb (by omega)))
 have hsb:=dot_sq (B:=2199023255552) (by omega) Z hzb
 obtain⟨sq,hsq⟩:∃ sq,sq=dotL Z Z:=⟨_,rfl⟩
 rw[←hsq] at HSQ hsb ⊢
 have h2:=Int.mul_nonneg hr0 hr0
 have h3:=Int.mul_le_mul hr1 hr1 hr0 (by omega)
 obtain⟨rr,hrr⟩:∃ rr,r*r=rr:=⟨_,rfl⟩
 rw[hrr] at h2 h3 ⊢
 have HRR:=zN hrr
 have HB1:Hid (0≤sq∧sq≤4835703278458516698824704000):=zN (by rw[hzl] at hsb;omega)
 obtain⟨sg,hsg⟩:∃ sg,sg=sgn sq rr:=⟨_,rfl⟩
 have HSG:=zN hsg
 have HE:Hid (decide (sg≤0)=decide (sq≤rr)):=zN (by rw[hsg];unfold sgn;rw[decide_eq_decide];(repeat' split)<;>omega)
 obtain⟨C1,D1,q1,q2,hW1⟩:=wv_parts sq
 obtain⟨C2,D2,q3,q4,hW2⟩:=wv_parts rr
 rw[hW1] at HSQ
 have HW1:=zN hW1
 have HW2:=zN hW2
 have HZL:=zN hzl
 have hnn:((n:Int) != (n:Int))=false:=by simp
 have HVV:=zN (And.intro hV hU)
 have HB2:=zN (And.intro h2 h3)
 clear hrr hsq hsb hzb hZ hzl hsg hW1 hW2 q1 q2 q3 q4 hV hU hx hy hxb hyb h2 h3
 go_enter Tryz.func49,Tryz.ntmps49
 go_wp2
 refine absW (F:=fun w'=>w'.cell? ⟨w.heap.size,3,none⟩=some (.int .i64 r)∧Below w.heap.size w w') ⟨(by simp[zO,zJ,zQ]),(by repeat (first|(with_reducible first|assumption|exact zBr _ _|refine zBs ?_ (by first|omega|simp<;>omega) _|refine zBa ?_ (by first|omega|simp<;>omega) _|apply zBd)|assumption))⟩ ?_
 rintro W1 ⟨c3,hb1⟩
 refine RX.region RX.fN (fun w'=>w'.cell? ⟨w.heap.size,3,none⟩=some (.int .i64 r)) (by kernel_rfl) (by kernel_rfl) (c3) (fun OPS HO QR hQR=>?_)
 have c3:W1.drew.cell? ⟨w.heap.size,3,none⟩=some (.int .i64 r):=c3
 have hb1:=hb1.drew
 generalize W1.drew=W2 at *
 repeat (refine zeX (fun R hR=>?_);(first|refine zbX rfl rfl (by first|exact .inl rfl|exact .inr rfl) (by simp only[zE,zF,zG,zH];rfl) (by simp only[zA,zB,zC,zD];rfl) ?_|refine zcX rfl rfl rfl (by simp only[zE,zF,zG,zH];rfl) (by simp only[zA,zB,zC,zD];rfl) ?_|(refine zdX rfl rfl rfl rfl ?_;apply zEx;apply zEx;refine⟨fun w' hS K hK=>?_,?_,?_⟩;(focus (have hS1:=hS;go_wp2;exact hK _ _ (by simp only[zl,zG,zH];first|exact zf (by omega)|exact zg (by omega)|exact zh (by omega)|exact zi (by omega)|exact zj (by omega)|exact zk (by omega)|exact RX.bneB _|rfl) rfl));(focus (simp only[zA,zB,zC,zD];rfl))));refine hR _ _ ?_;clear hR R)
 refine zeX (fun R hR=>?_)
 refine zgX (by first|rfl|(rw[HO.out];rfl)) rfl (fun K hK=>?_)
 go_wp2_with fail
 refine (HL.out _ (HVV.out.1.below hb1) (HVV.out.2.below hb1)).mono ?_
 rintro e w3 ⟨v,rfl,hrow,hb3⟩
 obtain⟨p',c',rfl,hc',hVZ⟩:=hrow.rdI
 rw[HZL.out]
 have d3:=zP hb3 c3
 have hb4:=hb1.trans (hb3.mono hb1.size)
 clear hb3 hb1 c3 hrow hc'
 refine hK _ _ ⟨d3,hR _ _ ?_⟩;clear hK K hR R
 repeat (refine zeX (fun R hR=>?_);(first|refine zbX rfl rfl (by first|exact .inl rfl|exact .inr rfl) (by simp only[zE,zF,zG,zH];rfl) (by simp only[zA,zB,zC,zD];rfl) ?_|refine zcX rfl rfl rfl (by simp only[zE,zF,zG,zH];rfl) (by simp only[zA,zB,zC,zD];rfl) ?_|(refine zdX rfl rfl rfl rfl ?_;apply zEx;apply zEx;refine⟨fun w' hS K hK=>?_,?_,?_⟩;(focus (have hS1:=hS;go_wp2;exact hK _ _ (by simp only[zl,zG,zH];first|exact zf (by omega)|exact zg (by omega)|exact zh (by omega)|exact zi (by omega)|exact zj (by omega)|exact zk (by omega)|exact RX.bneB _|rfl) rfl));(focus (simp only[zA,zB,zC,zD];rfl))));refine hR _ _ ?_;clear hR R)
 refine zeX (fun R hR=>?_)
 refine zgX (by first|rfl|(rw[HO.out];rfl)) rfl (fun K hK=>?_)
 go_wp2_with fail
 refine (HSQ.out p' c' _ hVZ).mono ?_
 rintro e w4 ⟨rfl,hb5⟩
 have e3:=zP hb5 d3
 have hb6:=hb4.trans (hb5.mono hb4.size)
 clear hb5 hb4 d3 hVZ
 refine hK _ _ ⟨e3,hR _ _ ?_⟩;clear hK K hR R
 repeat (refine zeX (fun R hR=>?_);(first|refine zbX rfl rfl (by first|exact .inl rfl|exact .inr rfl) (by simp only[zE,zF,zG,zH];rfl) (by simp only[zA,zB,zC,zD];rfl) ?_|refine zcX rfl rfl rfl (by simp only[zE,zF,zG,zH];rfl) (by simp only[zA,zB,zC,zD];rfl) ?_|(refine zdX rfl rfl rfl rfl ?_;apply zEx;apply zEx;refine⟨fun w' hS K hK=>?_,?_,?_⟩;(focus (have hS1:=hS;go_wp2;exact hK _ _ (by simp only[zl,zG,zH];first|exact zf (by omega)|exact zg (by omega)|exact zh (by omega)|exact zi (by omega)|exact zj (by omega)|exact zk (by omega)|exact RX.bneB _|rfl) rfl));(focus (simp only[zA,zB,zC,zD];rfl))));refine hR _ _ ?_;clear hR R)
 refine zeX (fun R hR=>?_)
 refine zgX (by first|rfl|(rw[HO.out];rfl)) rfl (fun K hK=>?_)
 go_wp2_with fail
 refine (rproduct_any r r _ (by omega) (by omega) (by omega) (by omega)).mono ?_
 rintro e w5 ⟨rfl,hb7⟩
 rw[HRR.out,HW2.out]
 have f3:=zP hb7 e3
 have hb8:=hb6.trans (hb7.mono hb6.size)
 clear hb7 hb6 e3
 refine hK _ _ ⟨f3,hR _ _ ?_⟩;clear hK K hR R
 repeat (refine zeX (fun R hR=>?_);(first|refine zbX rfl rfl (by first|exact .inl rfl|exact .inr rfl) (by simp only[zE,zF,zG,zH];rfl) (by simp only[zA,zB,zC,zD];rfl) ?_|refine zcX rfl rfl rfl (by simp only[zE,zF,zG,zH];rfl) (by simp only[zA,zB,zC,zD];rfl) ?_|(refine zdX rfl rfl rfl rfl ?_;apply zEx;apply zEx;refine⟨fun w' hS K hK=>?_,?_,?_⟩;(focus (have hS1:=hS;go_wp2;exact hK _ _ (by simp only[zl,zG,zH];first|exact zf (by omega)|exact zg (by omega)|exact zh (by omega)|exact zi (by omega)|exact zj (by omega)|exact zk (by omega)|exact RX.bneB _|rfl) rfl));(focus (simp only[zA,zB,zC,zD];rfl))));refine hR _ _ ?_;clear hR R)
 refine zeX (fun R hR=>?_)
 refine zgX (by first|rfl|(rw[HO.out];rfl)) rfl (fun K hK=>?_)
 go_wp2_with fail
 refine (rcompare_wv sq rr _ _ _ HW1.out.symm HW2.out.symm (by have:=HB1.out;omega) (by have:=HB1.out;omega) (by have:=HB2.out;omega) (by have:=HB2.out;omega)).mono ?_
 rintro e w6 ⟨rfl,hb9⟩
 rw[←HSG.out]
 have g3:=zP hb9 f3
 have hbz:=hb8.trans (hb9.mono hb8.size)
 clear hb9 hb8 f3
 refine hK _ _ ⟨g3,hR _ _ ?_⟩;clear hK K hR R
 repeat (refine zeX (fun R hR=>?_);(first|refine zbX rfl rfl (by first|exact .inl rfl|exact .inr rfl) (by simp only[zE,zF,zG,zH];rfl) (by simp only[zA,zB,zC,zD];rfl) ?_|refine zcX rfl rfl rfl (by simp only[zE,zF,zG,zH];rfl) (by simp only[zA,zB,zC,zD];rfl) ?_|(refine zdX rfl rfl rfl rfl ?_;apply zEx;apply zEx;refine⟨fun w' hS K hK=>?_,?_,?_⟩;(focus (have hS1:=hS;go_wp2;exact hK _ _ (by simp only[zl,zG,zH];first|exact zf (by omega)|exact zg (by omega)|exact zh (by omega)|exact zi (by omega)|exact zj (by omega)|exact zk (by omega)|exact RX.bneB _|rfl) rfl));(focus (simp only[zA,zB,zC,zD];rfl))));refine hR _ _ ?_;clear hR R)
 refine RX.wpL_nil (hQR _ _ (g3) ?_);clear hQR QR HO OPS
 go_wp2
 go_ret
 rw[←HE.out]
 exact⟨rfl,hbz⟩
end Go.Proofs.YtojkamfabapcoaaGreatDoor
