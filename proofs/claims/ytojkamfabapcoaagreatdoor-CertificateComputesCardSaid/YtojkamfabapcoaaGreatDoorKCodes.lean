import Derived.Test.YtojkamfabapcoaaGreatDoorProg
import Derived.Test.YtojkamfabapcoaaGreatDoorKRegion
import Derived.WalkKit
import Derived.WalkLawsBesides
import Derived.WalkSpells
import Derived.Lib.Hide
import Derived.Maps.AppendAt
import Derived.Test.YtojkamfabapcoaaGreatDoorKEdges
import Derived.Test.YtojkamfabapcoaaGreatDoorKPrec
set_option maxRecDepth 100000
set_option maxHeartbeats 8000000
set_option linter.unusedSimpArgs false
set_option linter.unusedVariables false
namespace Go.Proofs.YtojkamfabapcoaaGreatDoor
open Go.RowKit
structure CodesAt (w:World) (g b:Nat) (L:List Int) (i:Nat):Prop where
 hp:∃ p cap o,w.cell? ⟨g,0,none⟩=some (.slice p L.length cap)∧(0 < L.length→p=some ⟨b,o,none⟩)∧∀ k (h:k < L.length),w.cell? ⟨b,o+k,none⟩=some (.int .u8 L[k])
 hi:w.cell? ⟨g,1,none⟩=some (.int .i64 i)
 hf:w.frozen? ⟨g,1,none⟩=false
 hle:i≤L.length
 hlen:L.length≤240
 hval:∀ k (h:k < L.length),0≤L[k]∧L[k] < 256
 hgb:g≠b
theorem CodesAt.kept {w w':World} {g b:Nat} {L:List Int} {i:Nat} (h:CodesAt w g b L i) (hg:w'.heap[g]?=w.heap[g]?) (hb:0 < L.length→w'.heap[b]?=w.heap[b]?):CodesAt w' g b L i where
 hp:=by
  obtain⟨p,cap,o,h1,h2,h3⟩:=h.hp
  exact⟨p,cap,o,(World.cell?_of_block hg).trans h1,h2,fun k hk=>(World.cell?_of_block (hb (by omega))).trans (h3 k hk)⟩
 hi:=(World.cell?_of_block hg).trans h.hi
 hf:=(zFb hg).trans h.hf
 hle:=h.hle
 hlen:=h.hlen
 hval:=h.hval
 hgb:=h.hgb
theorem CodesAt.lt {w:World} {g b:Nat} {L:List Int} {i:Nat} (h:CodesAt w g b L i):g < w.heap.size:=zM w _ h.hi
theorem CodesAt.ltb {w:World} {g b:Nat} {L:List Int} {i:Nat} (h:CodesAt w g b L i) (h0:0 < L.length):b < w.heap.size:=by
 obtain⟨p,cap,o,_,_,h3⟩:=h.hp
 exact zM w _ (h3 0 h0)
theorem CodesAt.below {w w':World} {g b:Nat} {L:List Int} {i:Nat} (h:CodesAt w g b L i) (hb:Below w.heap.size w w'):CodesAt w' g b L i:=
 h.kept (hb.block _ h.lt) (fun h0=>hb.block _ (h.ltb h0))
theorem CodesAt.grown {w w':World} {g b:Nat} {L:List Int} {i:Nat} {row:Option Nat} (h:CodesAt w g b L i) (hb:w.grownBy w' row) (h1:some g≠row) (h2:some b≠row):CodesAt w' g b L i:=
 h.kept (hb.block _ h.lt h1) (fun h0=>hb.block _ (h.ltb h0) h2)
theorem CodesAt.grown' {w w':World} {g b k:Nat} {L:List Int} {i:Nat} (h:CodesAt w g b L i) (hb:w.grownBy w' (some k)) (h1:g≠k) (h2:0 < L.length→b≠k):CodesAt w' g b L i:=
 h.kept (hb.block _ h.lt (by simpa using h1)) (fun h0=>hb.block _ (h.ltb h0) (by simpa using h2 h0))
theorem CodesAt.set {w:World} {g b:Nat} {L:List Int} {i:Nat} (h:CodesAt w g b L i) (j:Nat) (hj:j≤L.length):CodesAt (w.setCell ⟨g,1,none⟩ (.int .i64 j)) g b L j where
 hp:=by
  obtain⟨p,cap,o,h1,h2,h3⟩:=h.hp
  exact⟨p,cap,o,(zK _ _ _ _ (by simp)).trans h1,h2,fun k hk=>(zK _ _ _ _ (by have:=h.hgb;simp[Ne.symm this])).trans (h3 k hk)⟩
 hi:=zL _ _ _ (by rw[h.hi];rfl)
 hf:=by rw[World.frozen?_setCell];exact h.hf
 hle:=hj
 hlen:=h.hlen
 hval:=h.hval
 hgb:=h.hgb
theorem cod_setCell (w:World) (g k:Nat) (v:Value):w.grownBy (w.setCell ⟨g,k,none⟩ v) (some g):=
 ⟨by simp[World.setCell],by simp[World.setCell],by simp[World.setCell],by simp[World.setCell],fun j _ hj=>Below.heap_setCell _ _ _ j (fun e=>hj (by rw[e]))⟩
theorem left_any (w:World) (g b:Nat) (L:List Int) (i:Nat) (h:CodesAt w g b L i) :
  Calls Tryz.prog 84 #[.pointer (some ⟨g,0,none⟩)] w fun e w'=>e=.returned (.bool (decide (i < L.length)))∧w'=w.drew:=by
 obtain⟨p,cap,o,hp,_,_⟩:=h.hp
 have hi:=h.hi
 have hle:=h.hle
 have hlen:=h.hlen
 go_enter Tryz.func84,Tryz.ntmps84
 go_wp2
 refine RX.region RX.fN (fun w'=>w'=_) (by kernel_rfl) (by kernel_rfl) rfl (fun OPS HO QR hQR=>?_)
 repeat (refine zeX (fun R hR=>?_);(first|refine zaX (by first|rfl|(rw[HO.out];rfl)) (by simp only[zA,zB,zC,zD];rfl) ?_|refine zbX (by first|rfl|(rw[HO.out];rfl)) rfl (by first|exact .inl rfl|exact .inr rfl) (by simp only[zE,zF,zG,zH];rfl) (by simp only[zA,zB,zC,zD];rfl) ?_|refine zcX (by first|rfl|(rw[HO.out];rfl)) rfl rfl (by simp only[zE,zF,zG,zH];rfl) (by simp only[zA,zB,zC,zD];rfl) ?_|(refine zdX (by first|rfl|(rw[HO.out];rfl)) rfl rfl rfl ?_;apply zEx;apply zEx;refine⟨fun w' hS K hK=>?_,?_,?_⟩;(focus (subst hS;go_wp2;exact hK _ _ (by simp only[zl,zG,zH];first|exact zf (by omega)|exact zg (by omega)|exact zh (by omega)|exact zi (by omega)|exact zj (by omega)|exact zk (by omega)|exact RX.bneB _|rfl) rfl));(focus (simp only[zA,zB,zC,zD];rfl))));refine hR _ _ ?_;clear hR R)
 refine RX.wpL_nil (hQR _ _ rfl ?_);clear hQR QR HO OPS
 go_wp2
 go_ret
 exact⟨by simp,rfl⟩
theorem next_none (w:World) (g b:Nat) (L:List Int) (i:Nat) (n:Int) (h:CodesAt w g b L i) (hn:i=L.length∨n < 1) :
  Calls Tryz.prog 37 #[.pointer (some ⟨g,0,none⟩),.int .i64 n] w fun e w'=>e=.returned (.int .i64 0)∧w'=w.drew:=by
 have hle:=h.hle
 go_enter Tryz.func37,Tryz.ntmps37
 by_cases hl:i < L.length
 ·go_wp2_with (go_at_call 84;refine (left_any _ _ _ _ _ h).mono ?_;rintro e w' ⟨rfl,rfl⟩)
  go_ret
  exact⟨rfl,rfl⟩
 ·go_wp2_with (go_at_call 84;refine (left_any _ _ _ _ _ h).mono ?_;rintro e w' ⟨rfl,rfl⟩)
  go_ret
  exact⟨rfl,rfl⟩
theorem next_some (w:World) (g b:Nat) (L:List Int) (i:Nat) (n:Int) (h:CodesAt w g b L i) (hl:i < L.length) (hn:1≤n) (hn':n≤1000000) :
  Calls Tryz.prog 37 #[.pointer (some ⟨g,0,none⟩),.int .i64 n] w fun e w'=>e=.returned (.int .i64 (L[i] % n))∧w'=(w.drew.setCell ⟨g,1,none⟩ (.int .i64 ((i:Int)+1))).drew:=by
 obtain⟨p,cap,o,hp,hpp,hcc⟩:=h.hp
 obtain rfl:=hpp (by omega)
 have hi:=h.hi
 have hf:=h.hf
 have hle:=h.hle
 have hlen:=h.hlen
 have hgb:=h.hgb
 have hc:=hcc i hl
 obtain⟨hc0,hc1⟩:=h.hval i hl
 clear hcc
 have hp:w.drew.cell? ⟨g,0,none⟩=_:=hp
 have hi:w.drew.cell? ⟨g,1,none⟩=_:=hi
 have hc:w.drew.cell? ⟨b,o+i,none⟩=_:=hc
 have hf:w.drew.frozen? ⟨g,1,none⟩=_:=hf
 have hn0:(n == 0)=false:=by rw[beq_eq_false_iff_ne];omega
 go_enter Tryz.func37,Tryz.ntmps37
 go_wp2_with (go_at_call 84;refine (left_any _ _ _ _ _ h).mono ?_;rintro e w' ⟨rfl,rfl⟩)
 refine RX.region RX.fN (fun w'=>w'=_) (by kernel_rfl) (by kernel_rfl) rfl (fun OPS HO QR hQR=>?_)
 repeat (refine zeX (fun R hR=>?_);(first|refine zaX (by first|rfl|(rw[HO.out];rfl)) (by simp only[zA,zB,zC,zD];rfl) ?_|refine zbX (by first|rfl|(rw[HO.out];rfl)) rfl (by first|exact .inl rfl|exact .inr rfl) (by simp only[zE,zF,zG,zH];rfl) (by simp only[zA,zB,zC,zD];rfl) ?_|refine zcX (by first|rfl|(rw[HO.out];rfl)) rfl rfl (by simp only[zE,zF,zG,zH];rfl) (by simp only[zA,zB,zC,zD];rfl) ?_|(refine zdX (by first|rfl|(rw[HO.out];rfl)) rfl rfl rfl ?_;apply zEx;apply zEx;refine⟨fun w' hS K hK=>?_,?_,?_⟩;(focus (subst hS;go_wp2;exact hK _ _ (by simp only[zl,zG,zH];first|exact zf (by omega)|exact zg (by omega)|exact zh (by omega)|exact zi (by omega)|exact zj (by omega)|exact zk (by omega)|exact RX.bneB _|rfl) rfl));(focus (simp only[zA,zB,zC,zD];rfl))));refine hR _ _ ?_;clear hR R)
 refine RX.wpL_nil (hQR _ _ rfl ?_);clear hQR QR HO OPS
 go_wp2
 go_ret
 exact⟨rfl,rfl⟩
theorem next_any (w:World) (g b:Nat) (L:List Int) (i:Nat) (n:Int) (h:CodesAt w g b L i) (hn':n≤1000000) :
  Calls Tryz.prog 37 #[.pointer (some ⟨g,0,none⟩),.int .i64 n] w fun e w'=>∃ r:Nat,e=.returned (.int .i64 r)∧((r:Int) < n∨n < 1∧r=0)∧w.grownBy w' (some g)∧∃ j,CodesAt w' g b L j:=by
 by_cases hc:i=L.length∨n < 1
 ·refine (next_none w g b L i n h hc).mono ?_
  rintro e w' ⟨rfl,rfl⟩
  exact⟨0,rfl,by omega,⟨rfl,rfl,rfl,Nat.le_refl _,fun _ _ _=>rfl⟩,i,h.kept rfl (fun _=>rfl)⟩
 ·have hle:=h.hle
  have hl:i < L.length:=by omega
  refine (next_some w g b L i n h hl (by omega) hn').mono ?_
  rintro e w' ⟨rfl,rfl⟩
  obtain⟨h0,_⟩:=h.hval i hl
  refine⟨(L[i] % n).toNat,?_,?_,?_,i+1,?_⟩
  ·have:=Int.emod_nonneg L[i] (show n≠0 by omega)
   rw[Int.toNat_of_nonneg this]
  ·have:=Int.emod_nonneg L[i] (show n≠0 by omega)
   have:=Int.emod_lt_of_pos L[i] (show 0 < n by omega)
   omega
  ·have h1:=cod_setCell w.drew g 1 (.int .i64 ((i:Int)+1))
   exact⟨h1.os,h1.tape,h1.output,h1.size,h1.block⟩
  ·have h1:CodesAt w.drew g b L i:=h.kept rfl (fun _=>rfl)
   have h2:=h1.set (i+1) hl
   exact CodesAt.kept (w:=w.drew.setCell ⟨g,1,none⟩ (.int .i64 ((i+1:Nat):Int))) h2 rfl (fun _=>rfl)
theorem new_any (w:World) (p:Option Addr) (cap b o most:Nat) (L:List Int) (hm:most≤240) (hp:0 < L.length→p=some ⟨b,o,none⟩) (hcap:L.length≤cap) (hcap':cap≤9223372036854775807)
  (hcell:∀ k (h:k < L.length),w.cell? ⟨b,o+k,none⟩=some (.int .u8 L[k])∧0≤L[k]∧L[k] < 256) :
  Calls Tryz.prog 9 #[.slice p L.length cap,.int .i64 most] w fun e w'=>e=.returned (.pointer (some ⟨w.heap.size,0,none⟩))∧Below w.heap.size w w'∧∃ b',(0 < L.length→b' < w.heap.size)∧CodesAt w' w.heap.size b' (L.take most) 0:=by
 have fin:∀ p' cap',(0 < (L.take most).length→p'=some ⟨b,o,none⟩)→∃ b',(0 < L.length→b' < w.heap.size)∧CodesAt (w.alloc (.cells #[.slice p' (L.take most).length cap',.int .i64 0] 79)) w.heap.size b' (L.take most) 0:=by
  intro p' cap' hp'
  by_cases h0:0 < L.length
  ·have hb:b < w.heap.size:=zM w _ (hcell 0 h0).1
   refine⟨b,fun _=>hb,⟨p',cap',o,by rw[zJ];simp,hp',fun k hk=>?_⟩,by rw[zJ];simp,by rw[RX.frozen_alloc];simp,Nat.zero_le _,by simp;omega,fun k hk=>?_,by omega⟩
   ·have hk':k < L.length:=by simp at hk;omega
    rw[zJ,if_neg (by omega)]
    simpa using (hcell k hk').1
   ·have hk':k < L.length:=by simp at hk;omega
    simpa using (hcell k hk').2
  ·refine⟨w.heap.size+1,fun hh=>absurd hh h0,⟨p',cap',0,by rw[zJ];simp,fun hh=>by simp at hh;omega,fun k hk=>by simp at hk;omega⟩,by rw[zJ];simp,by rw[RX.frozen_alloc];simp,Nat.zero_le _,by simp;omega,fun k hk=>?_,by omega⟩
   simp at hk;omega
 by_cases hl:most < L.length
 ·obtain rfl:=hp (by omega)
  have e:(L.take most).length=most:=by simp;omega
  rw[e] at fin
  go_enter Tryz.func9,Tryz.ntmps9
  go_wp2
  go_ret
  exact⟨rfl,(zBr _ _).alloc (Nat.le_refl _) _,fin _ _ (fun _=>rfl)⟩
 ·have e:(L.take most).length=L.length:=by simp;omega
  rw[e] at fin
  go_enter Tryz.func9,Tryz.ntmps9
  go_wp2
  go_ret
  exact⟨rfl,(zBr _ _).alloc (Nat.le_refl _) _,fin _ _ hp⟩
theorem bor_nat (a b:Nat) (ha:a < 16777216) (hb:b < 16777216):∃ r:Nat,r < 16777216∧bits .or .i64 (a:Int) (b:Int)=(r:Int):=by
 refine⟨a ||| b,Nat.or_lt_two_pow (n:=24) ha hb,?_⟩
 show IntKind.i64.wrap ((BitVec.ofInt 64 (a:Int) ||| BitVec.ofInt 64 (b:Int)).toNat:Int)=_
 have hr:=Nat.or_lt_two_pow (n:=24) ha hb
 have ea:(BitVec.ofInt 64 (a:Int)).toNat=a:=by rw[BitVec.toNat_ofInt];omega
 have eb:(BitVec.ofInt 64 (b:Int)).toNat=b:=by rw[BitVec.toNat_ofInt];omega
 rw[BitVec.toNat_or,ea,eb,IntKind.wrap_i64]
 omega
theorem bor_int (a b:Int) (ha:0≤a) (ha':a < 16777216) (hb:0≤b) (hb':b < 16777216):∃ r:Nat,r < 16777216∧bits .or .i64 a b=(r:Int):=by
 obtain⟨x,rfl⟩:=Int.eq_ofNat_of_zero_le ha
 obtain⟨y,rfl⟩:=Int.eq_ofNat_of_zero_le hb
 exact bor_nat x y (by omega) (by omega)
theorem signed_any (w:World) (g b:Nat) (L:List Int) (i:Nat) (most:Nat) (h:CodesAt w g b L i) (hm:most≤9223372036854775806) :
  Calls Tryz.prog 51 #[.pointer (some ⟨g,0,none⟩),.int .i64 most] w fun e w'=>∃ x:Int,e=.returned (.int .i64 x)∧-(most:Int)≤x∧x≤most∧w.grownBy w' (some g)∧∃ j,CodesAt w' g b L j:=by
 have hm1:(((most:Int)+1) == 0)=false:=by rw[beq_eq_false_iff_ne];omega
 go_enter Tryz.func51,Tryz.ntmps51
 go_wp2_with fail
 refine (next_any _ g b L i 256 h (by omega)).mono ?_
 rintro e w1 ⟨r1,rfl,hr1,hg1,j1,h1⟩
 go_wp2_with fail
 refine (next_any _ g b L j1 256 h1 (by omega)).mono ?_
 rintro e w2 ⟨r2,rfl,hr2,hg2,j2,h2⟩
 go_wp2_with fail
 refine (next_any _ g b L j2 256 h2 (by omega)).mono ?_
 rintro e w3 ⟨r3,rfl,hr3,hg3,j3,h3⟩
 go_wp2_with fail
 obtain⟨t,ht,et⟩:=bor_int ((r1:Int)*65536) ((r2:Int)*256) (by omega) (by omega) (by omega) (by omega)
 rw[et]
 obtain⟨u,hu,eu⟩:=bor_int (t:Int) (r3:Int) (by omega) (by omega) (by omega) (by omega)
 rw[eu]
 obtain⟨x,hx⟩:∃ x,x=(u:Int).tmod ((most:Int)+1):=⟨_,rfl⟩
 have hx0:0≤x:=by rw[hx,Int.tmod_eq_emod_of_nonneg (by omega)];exact Int.emod_nonneg _ (by omega)
 have hx1:x≤most:=by
  have:=Int.emod_lt_of_pos (u:Int) (show 0 < (most:Int)+1 by omega)
  rw[hx,Int.tmod_eq_emod_of_nonneg (by omega)];omega
 rw[←hx]
 clear hx et eu
 have hG:=(hg1.trans hg2).trans hg3
 clear hg1 hg2 hg3 h1 h2 h
 refine (next_any _ g b L j3 2 h3 (by omega)).mono ?_
 rintro e w4 ⟨r4,rfl,hr4,hg4,j4,h4⟩
 have hG:=hG.trans hg4
 clear hg4 h3
 by_cases hr:r4=1
 ·subst hr
  go_wp2
  go_ret
  exact⟨-x,rfl,by omega,by omega,hG,j4,h4⟩
 ·obtain rfl:r4=0:=by omega
  go_wp2
  go_ret
  exact⟨x,rfl,by omega,by omega,hG,j4,h4⟩
end Go.Proofs.YtojkamfabapcoaaGreatDoor
theorem Go.RX.wpl_app2 {P:Go.Program} {ops:Array Go.Oper} {rest:List Go.Oper} {o:Go.Oper} {a:Go.Act} {w:Go.World} {Q:Go.Exit→Go.Act→Go.World→Prop} {t e:Go.TypeId} {z:Go.Value} {size bytes:Nat} (hgd:o.guard=none) (E:Go.RX.ElemOf P t e z size bytes) (s x:Go.Operand)
  (ho:o.op=.call { callee:=.builtin .append,args:=#[s,x],argTypes:=#[t,t] }) (base:Nat)
  (v:Go.Value) (n:Nat) (xs:List Go.Value) (hown:w.ownsRow base e size v n xs) (hs:a.eval s=v)
  (B:Nat) (cs:Array Go.Value) (m:Nat) (hx:a.eval x=.slice (some ⟨B,0,none⟩) m m) (hB:w.heap[B]?=some (.cells cs e (0,0))) (hc:cs.size=m*size) (h1:∀ u∈cs.toList,u.oneCell'=true)
  (hbytes:(n+m)*bytes≤140737488355328) (hn:n+m≤140737488355328) (hbase:base≤w.heap.size)
  (h:∀ v' w',w'.ownsRow base e size v' (n+m) (xs ++ cs.toList)→Go.RowKit.Below base w w'→w.grownBy w' v.ownBlock→(v'.ownBlock=v.ownBlock∨v'.ownBlock=some w.heap.size)→Go.wpList P ops Q rest (a.put o.dst v') w'):Go.wpList P ops Q (o :: rest) a w:=by
 refine Go.wpList_plain hgd fun K hK=>?_
 exact Go.RX.wp_app E s x ho base v n xs hown hs B cs m hx hB hc h1 hbytes hn hbase (fun v' w' a b c d=>hK _ _ (h v' w' a b c d))
namespace Go.Proofs.YtojkamfabapcoaaGreatDoor
open Go.RowKit
def RowV (w:World) (base:Nat) (v:Value) (zs:List Int):Prop:=w.ownsRow base 3 1 v zs.length (zs.map (Value.int .i64))
theorem RowV.nil (w:World) (base:Nat):RowV w base (.slice none 0 0) []:=World.ownsRow_nil _ _ _ _
theorem RowV.snoc {w:World} {base:Nat} {v:Value} {zs:List Int} {x:Int} (h:w.ownsRow base 3 1 v (zs.length+1) (zs.map (Value.int .i64) ++ [.int .i64 x])):RowV w base v (zs ++ [x]):=by
 unfold RowV;simpa using h
theorem RowV.kept {w w':World} {base:Nat} {v:Value} {zs:List Int} {row:Option Nat} (h:RowV w base v zs) (hg:w.grownBy w' row) (hr:∀ k,row=some k→k < base):RowV w' base v zs:=
 World.ownsRow.kept h hg (by
  cases e:v.ownBlock with
  |none=>exact .inl rfl
  |some k=>refine .inr fun hh=>?_;have h1:=(World.ownsRow.lt h k e).1;have h2:=hr k hh.symm;omega)
theorem RowV.mono {w:World} {base base':Nat} {v:Value} {zs:List Int} (h:RowV w base v zs) (hb:base'≤base):RowV w base' v zs:=⟨h.1,h.2.imp id fun ⟨g,cap,cur,e,h1,r⟩=>⟨g,cap,cur,e,Nat.le_trans hb h1,r⟩⟩
theorem RowV.form {w:World} {base:Nat} {v:Value} {zs:List Int} (h:RowV w base v zs):∃ p cap b,v=.slice p zs.length cap∧zs.length≤cap∧(0 < zs.length→p=some ⟨b,0,none⟩∧base≤b∧b < w.heap.size)∧IntsAt w b 0 zs:=by
 rcases Nat.eq_zero_or_pos zs.length with h0|h0
 ·obtain⟨p,cap,rfl,hc⟩:=own_slice h
  exact⟨p,cap,0,rfl,hc,fun hh=>by omega,fun j hj=>by omega⟩
 ·obtain⟨g,cap,cur,rfl,hc,hb,hg⟩:=own_some h h0
  refine⟨_,cap,g,rfl,hc,fun _=>⟨rfl,hb,?_⟩,fun j hj=>?_⟩
  ·exact (World.ownsRow.lt h g rfl).2
  ·rw[Nat.zero_add]
   refine⟨?_,World.ownsRow.frozenAt h j⟩
   rw[World.ownsRow.cellAt h j (by omega)]
   simp[hj]
def Within (m:Nat) (zs:List Int):Prop:=∀ x∈zs,-(m:Int)≤x∧x≤m
theorem grw_own {w0 w w':World} {g:Nat} {row:Option Nat} (h:w0.grownBy w (some g)) (h2:w.grownBy w' row) (hr:∀ k,row=some k→w0.heap.size≤k):w0.grownBy w' (some g):=
 ⟨h2.os.trans h.os,h2.tape.trans h.tape,h2.output.trans h.output,Nat.le_trans h.size h2.size,fun j hj hne=>(h2.block j (Nat.lt_of_lt_of_le hj h.size) (fun e=>by have:=hr j e.symm;omega)).trans (h.block j hj hne)⟩
theorem CodesAt.own {w w':World} {g b:Nat} {L:List Int} {i:Nat} {row:Option Nat} (h:CodesAt w g b L i) (hg:w.grownBy w' row) (hr:∀ k,row=some k→g≠k∧(0 < L.length→b≠k)):CodesAt w' g b L i:=
 h.kept (hg.block _ h.lt (fun e=>(hr g e.symm).1 rfl)) (fun h0=>hg.block _ (h.ltb h0) (fun e=>(hr b e.symm).2 h0 rfl))
theorem cvec_any (w:World) (g b:Nat) (L:List Int) (i:Nat) (n most:Nat) (h:CodesAt w g b L i) (hb0:0 < L.length→b < w.heap.size) (hn:n≤1000) (hm:most≤4611686018427387904) :
  Calls Tryz.prog 36 #[.pointer (some ⟨g,0,none⟩),.int .i64 n,.int .i64 most] w fun e w'=>∃ v zs,e=.returned v∧zs.length=n∧Within (max most 9) zs∧RowV w' w.heap.size v zs∧w.grownBy w' (some g)∧∃ j,CodesAt w' g b L j:=by
 have hg:=h.lt
 go_enter Tryz.func36,Tryz.ntmps36
 go_wp2_with fail
 refine (signed_any _ g b L i most h (by omega)).mono ?_
 rintro e w1 ⟨x1,rfl,l1,m1,hg1,i1,h1⟩
 go_wp2_with fail
 refine (signed_any _ g b L i1 most h1 (by omega)).mono ?_
 rintro e w2 ⟨x2,rfl,l2,m2,hg2,i2,h2⟩
 go_wp2_with fail
 refine (signed_any _ g b L i2 most h2 (by omega)).mono ?_
 rintro e w3 ⟨x3,rfl,l3,m3,hg3,i3,h3⟩
 go_wp2_with fail
 refine (signed_any _ g b L i3 9 h3 (by omega)).mono ?_
 rintro e w4 ⟨x4,rfl,l4,m4,hg4,i4,h4⟩
 have hG:=((hg1.trans hg2).trans hg3).trans hg4
 clear hg1 hg2 hg3 hg4 h1 h2 h3 h
 go_wp2
 have hc:∀ k,k < 7→∃ y:Int,(w4.alloc (.cells #[.int .i64 x1,.int .i64 x2,.int .i64 x3,.int .i64 x4,.int .i64 0,.int .i64 most,.int .i64 (-(most:Int))] 3)).cell? ⟨w4.heap.size,k,none⟩=some (.int .i64 y)∧-((max most 9:Nat):Int)≤y∧y≤(max most 9:Nat):=by
  intro k hk
  match k,hk with
  |0,_=>exact⟨x1,(by simp[zO,zJ,zQ]),by omega,by omega⟩
  |1,_=>exact⟨x2,(by simp[zO,zJ,zQ]),by omega,by omega⟩
  |2,_=>exact⟨x3,(by simp[zO,zJ,zQ]),by omega,by omega⟩
  |3,_=>exact⟨x4,(by simp[zO,zJ,zQ]),by omega,by omega⟩
  |4,_=>exact⟨0,(by simp[zO,zJ,zQ]),by omega,by omega⟩
  |5,_=>exact⟨most,(by simp[zO,zJ,zQ]),by omega,by omega⟩
  |6,_=>exact⟨-(most:Int),(by simp[zO,zJ,zQ]),by omega,by omega⟩
  |k+7,hk=>omega
 have h5:CodesAt (w4.alloc (.cells #[.int .i64 x1,.int .i64 x2,.int .i64 x3,.int .i64 x4,.int .i64 0,.int .i64 most,.int .i64 (-(most:Int))] 3)) g b L i4:=h4.below ((zBr _ _).alloc (Nat.le_refl _) _)
 have hG5:w.grownBy (w4.alloc (.cells #[.int .i64 x1,.int .i64 x2,.int .i64 x3,.int .i64 x4,.int .i64 0,.int .i64 most,.int .i64 (-(most:Int))] 3)) (some g):=grw_alloc hG _
 have hs5:(w4.alloc (.cells #[.int .i64 x1,.int .i64 x2,.int .i64 x3,.int .i64 x4,.int .i64 0,.int .i64 most,.int .i64 (-(most:Int))] 3)).heap.size=w4.heap.size+1:=by simp
 have hs4:=hG.size
 obtain⟨A,hA⟩:∃ A,A=w4.heap.size:=⟨_,rfl⟩
 rw[←hA] at hc hs5 hs4 ⊢
 generalize (w4.alloc (.cells #[.int .i64 x1,.int .i64 x2,.int .i64 x3,.int .i64 x4,.int .i64 0,.int .i64 most,.int .i64 (-(most:Int))] 3))=W at *
 have HC:=zN hc
 have HM:Hid (∀ zs:List Int,Within (max most 9) zs→∀ y:Int,-((max most 9:Nat):Int)≤y→y≤(max most 9:Nat)→Within (max most 9) (zs ++ [y])):=zN (fun zs hz y h1 h2 x hx=>by
  rcases List.mem_append.1 hx with hx|hx
  ·exact hz x hx
  ·simp only[List.mem_cons,List.not_mem_nil,or_false] at hx;subst hx;exact⟨h1,h2⟩)
 clear hc hA hG l1 l2 l3 l4 m1 m2 m3 m4 h4
 have hgA:g≠A:=by omega
 go_loopw [8,9] (fun v i wr=>∃ (k:Nat) (zs:List Int),k≤n∧i=.int .i64 k∧zs.length=k∧Hid (Within (max most 9) zs)∧RowV wr (A+1) v zs∧w.grownBy wr (some g)∧(∃ j,CodesAt wr g b L j)∧A+1≤wr.heap.size∧∀ k c,W.cell? ⟨A,k,none⟩=some c→wr.cell? ⟨A,k,none⟩=some c) (fun v i _=>n-(intOf i).toNat)
 case atStart=>exact⟨0,[],by omega,rfl,rfl,zN (fun x hx=>by cases hx),RowV.nil _ _,hG5,⟨i4,h5⟩,by omega,fun k c hh=>hh⟩
 case round=>
  clear h5 hG5
  obtain⟨_,zs,hk,rfl,rfl,HW,hrow,hgr,⟨j,hC⟩,hsz,hK⟩:=hrel
  by_cases hlt:zs.length < n
  ·have hdk:decide ((zs.length:Int) < (n:Int))=true:=zDt (by omega)
   obtain⟨p8,c8,rfl,hc8⟩:=own_slice hrow
   have hbA:0 < L.length→b≤A:=fun h0=>by have:=hb0 h0;omega
   go_wp2_with fail
   refine (next_any _ g b L j 7 hC (by omega)).mono ?_
   rintro e w1 ⟨r,rfl,hr,hg1,j1,hC1⟩
   obtain⟨y,hy,hy1,hy2⟩:=HC.out r (by omega)
   have hyc:=hg1.cell (hK r _ hy) (by simp;omega)
   have hrow1:=hrow.kept hg1 (fun k hk=>by injection hk with hk;omega)
   have hgr1:=hgr.trans hg1
   have hK1:Hid (∀ k c,W.cell? ⟨A,k,none⟩=some c→w1.cell? ⟨A,k,none⟩=some c):=zN fun k c hh=>hg1.cell (hK k c hh) (by simp;omega)
   have hr7:r < 7:=by omega
   have hs1:A+1≤w1.heap.size:=by have:=hg1.size;omega
   have hown:=World.ownsRow.alloc hrow1 (.cells #[.int .i64 y] 3)
   have HC1:=zN hC1
   have HG1:=zN hgr1
   have HY:=zN (And.intro hy1 hy2)
   clear hK hC hgr hrow hg1 hy hr hC1 hgr1 hrow1 hy1 hy2
   go_wp2_with (refine RX.wpl_app2 (by rfl) elInt _ _ (by rfl) (A+1) _ _ _ hown (by rfl) w1.heap.size _ 1 (by rfl) (heap_alloc_new _ _) (by rfl) (by simp[Value.oneCell']) (by omega) (by omega) (by simp;omega) ?_;intro v' w2 hown2 hb2 hg2 hat2)
   have hlow:∀ q,(Value.slice p8 zs.length c8).ownBlock=some q→A+1≤q:=fun q hq=>(World.ownsRow.lt hown q hq).1
   have HC2:Hid (CodesAt w2 g b L j1):=zN ((HC1.out.below ((zBr _ _).alloc (Nat.le_refl _) _)).own hg2 (fun q hq=>⟨by have:=hlow q hq;omega,fun h0=>by have:=hlow q hq;have:=hbA h0;omega⟩))
   have HG2:Hid (w.grownBy w2 (some g)):=zN (grw_own (grw_alloc HG1.out _) hg2 (fun q hq=>by have:=hlow q hq;omega))
   have HR2:Hid (RowV w2 (A+1) v' (zs ++ [y])):=zN (RowV.snoc hown2)
   have HK2:Hid (∀ k c,W.cell? ⟨A,k,none⟩=some c→w2.cell? ⟨A,k,none⟩=some c):=zN fun k c hh=>hg2.cell (zP ((zBr _ _).alloc (Nat.le_refl _) _) (hK1.out k c hh)) (fun e=>by have:=hlow A e.symm;omega)
   have hs2:A+1≤w2.heap.size:=by have:=hg2.size;simp at this;omega
   go_roundw
   case rel=>exact⟨zs.length+1,zs ++ [y],by omega,by go_num,by simp,zN (HM.out zs HW.out y HY.out.1 HY.out.2),HR2.out,HG2.out,⟨j1,HC2.out⟩,hs2,HK2.out⟩
   case measure=>simp[intOf];omega
  ·have hdk:decide ((zs.length:Int) < (n:Int))=false:=zDf (by omega)
   obtain hlen:zs.length=n:=by omega
   have HLEN:=zN hlen
   clear hlen
   go_wp2
   go_ret
   exact⟨_,zs,rfl,HLEN.out,HW.out,hrow.mono (by omega),hgr,j,hC⟩
theorem cfreq_any (w:World) (g b:Nat) (L:List Int) (i:Nat) (h:CodesAt w g b L i) :
  Calls Tryz.prog 60 #[.pointer (some ⟨g,0,none⟩)] w fun e w'=>∃ f:Nat,e=.returned (.int .i64 f)∧1≤f∧f≤2∧w.grownBy w' (some g)∧∃ j,CodesAt w' g b L j:=by
 have hg:=h.lt
 go_enter Tryz.func60,Tryz.ntmps60
 go_wp2_with fail
 have hB:Below w.heap.size w (w.alloc (.cells #[.int .i64 1,.int .i64 1,.int .i64 1,.int .i64 1,.int .i64 2] 3)):=(by repeat (first|(with_reducible first|assumption|exact zBr _ _|refine zBs ?_ (by first|omega|(simp<;>omega)) _|refine zBa ?_ (by first|omega|(simp<;>omega)) _|apply zBd)|assumption))
 have c:∀ k,k < 5→∃ f:Nat,(w.alloc (.cells #[.int .i64 1,.int .i64 1,.int .i64 1,.int .i64 1,.int .i64 2] 3)).cell? ⟨w.heap.size,k,none⟩=some (.int .i64 f)∧1≤f∧f≤2:=by
  intro k hk
  match k,hk with
  |0,_|1,_|2,_|3,_=>exact⟨1,(by simp[zO,zJ,zQ]),by omega,by omega⟩
  |4,_=>exact⟨2,(by simp[zO,zJ,zQ]),by omega,by omega⟩
  |k+5,hk=>omega
 have hC:=h.below hB
 generalize hW:(w.alloc (.cells #[.int .i64 1,.int .i64 1,.int .i64 1,.int .i64 1,.int .i64 2] 3))=W0 at *
 refine (next_any _ g b L i 5 hC (by omega)).mono ?_
 rintro e w1 ⟨r,rfl,hr,hg1,j,h1⟩
 have hr5:r < 5:=by omega
 obtain⟨f,hf,hf1,hf2⟩:=c r hr5
 have hc:=hg1.cell hf (by simp;omega)
 have hG:w.grownBy w1 (some g):=(grw_below hB _).trans hg1
 clear hW c hf hg1 hB hC
 go_wp2
 go_ret
 exact⟨f,rfl,hf1,hf2,hG,j,h1⟩
def Lits (w:World) (base:Nat) (x:Value) (vs:List Int):Prop:=∃ A,base≤A∧x=.slice (some ⟨A,0,none⟩) 5 5∧∀ k (h:k < vs.length),w.cell? ⟨A,k,none⟩=some (.int .i64 vs[k])
def PtrTo (w:World) (base:Nat) (x:Value) (vs:List Int):Prop:=∃ A k,∃ h:k < vs.length,base≤A∧x=.pointer (some ⟨A,k,none⟩)∧w.cell? ⟨A,k,none⟩=some (.int .i64 vs[k])
def smooths:List Int:=[0,1,50,100000,1000000]
def anchors:List Int:=[1,7,1000,200000,1000000]
def PrC (f s a:Int):Prop:=(1≤f∧f≤2)∧s∈smooths∧a∈anchors
def pF (g base:Nat):Nat→Value→World→Prop
 |0,x,_=>x=.pointer (some ⟨g,0,none⟩)
 |1,x,_=>∃ f:Nat,x=.int .i64 f∧1≤f∧f≤2
 |2,x,w=>Lits w base x smooths
 |3,x,_=>x=.pointer (some ⟨g,0,none⟩)
 |4,x,_=>∃ r:Nat,x=.int .i64 r∧r < 5
 |5,x,w=>PtrTo w base x smooths
 |6,x,_=>∃ s,x=.int .i64 s∧s∈smooths
 |7,x,w=>Lits w base x anchors
 |8,x,_=>x=.pointer (some ⟨g,0,none⟩)
 |9,x,_=>∃ r:Nat,x=.int .i64 r∧r < 5
 |10,x,w=>PtrTo w base x anchors
 |11,x,_=>∃ s,x=.int .i64 s∧s∈anchors
 |12,x,_=>∃ f s a,x=prv f s a∧PrC f s a
 |_,_,_=>True
def KeepN (base:Nat) (w w':World):Prop:=∀ A k v,base≤A→w.cell? ⟨A,k,none⟩=some v→w'.cell? ⟨A,k,none⟩=some v
theorem pF.keep {g base j:Nat} {x:Value} {w w':World} (h:pF g base j x w) (hk:KeepN base w w'):pF g base j x w':=by
 unfold pF at *
 split at h
 all_goals first
  |exact h
  |(obtain⟨A,h1,h2,h3⟩:=h;exact⟨A,h1,h2,fun k hh=>hk _ _ _ h1 (h3 k hh)⟩)
  |(obtain⟨A,k,hl,h1,h2,h3⟩:=h;exact⟨A,k,hl,h1,h2,hk _ _ _ h1 h3⟩)
structure PW (W0:World) (g b:Nat) (L:List Int) (R base:Nat) (w:World):Prop where
 codes:∃ j,CodesAt w g b L j
 grown:W0.grownBy w (some g)
 size:base≤w.heap.size
 r0:∃ c,w.cell? ⟨R,0,none⟩=some c
 r1:∃ c,w.cell? ⟨R,1,none⟩=some c
 r2:∃ c,w.cell? ⟨R,2,none⟩=some c
 z0:w.frozen? ⟨R,0,none⟩=false
 z1:w.frozen? ⟨R,1,none⟩=false
 z2:w.frozen? ⟨R,2,none⟩=false
def Done3 (R:Nat) (w:World):Prop:=∃ f s a,PrC f s a∧w.cell? ⟨R,0,none⟩=some (.int .i64 f)∧w.cell? ⟨R,1,none⟩=some (.int .i64 s)∧w.cell? ⟨R,2,none⟩=some (.int .i64 a)
def PI (W0:World) (g b:Nat) (L:List Int) (R base:Nat) (ds:List Deferred) (d:Nat→Bool) (a:Act) (w:World):Prop:=
 ∃ xs:List Value,xs.length=16∧a=⟨xs.toArray,ds⟩∧xs.getD 0 undef=.pointer (some ⟨g,0,none⟩)∧xs.getD 2 undef=.pointer (some ⟨R,0,none⟩)∧
  (∀ j,j < 13→d j=true→pF g base j (xs.getD (j+3) undef) w)∧PW W0 g b L R base w∧(d 13=true→Done3 R w∧∀ j,j < 13→d j=true)
theorem tmps_list (xs:List Value) (ds:List Deferred) (k:Nat):(⟨xs.toArray,ds⟩:Act).tmps[k]?.getD undef=xs.getD k undef:=by
 simp
theorem PI.at {W0:World} {g b:Nat} {L:List Int} {R base:Nat} {ds:List Deferred} {d:Nat→Bool} {a:Act} {w:World} (h:PI W0 g b L R base ds d a w) (j t:Nat) (ht:t=j+3) (hj:j < 13) (hd:d j=true):pF g base j (a.tmps[t]?.getD undef) w:=by
 subst ht
 obtain⟨xs,_,rfl,_,_,h1,_⟩:=h
 rw[tmps_list];exact h1 j hj hd
theorem PI.e0 {W0:World} {g b:Nat} {L:List Int} {R base:Nat} {ds:List Deferred} {d:Nat→Bool} {a:Act} {w:World} (h:PI W0 g b L R base ds d a w):a.tmps[0]?.getD undef=.pointer (some ⟨g,0,none⟩):=by
 obtain⟨xs,_,rfl,h0,_⟩:=h
 rw[tmps_list];exact h0
theorem PI.e2 {W0:World} {g b:Nat} {L:List Int} {R base:Nat} {ds:List Deferred} {d:Nat→Bool} {a:Act} {w:World} (h:PI W0 g b L R base ds d a w):a.tmps[2]?.getD undef=.pointer (some ⟨R,0,none⟩):=by
 obtain⟨xs,_,rfl,_,h0,_⟩:=h
 rw[tmps_list];exact h0
theorem PI.world {W0:World} {g b:Nat} {L:List Int} {R base:Nat} {ds:List Deferred} {d:Nat→Bool} {a:Act} {w:World} (h:PI W0 g b L R base ds d a w):PW W0 g b L R base w:=by
 obtain⟨_,_,_,_,_,_,h,_⟩:=h;exact h
theorem PI.not13 {W0:World} {g b:Nat} {L:List Int} {R base:Nat} {ds:List Deferred} {d:Nat→Bool} {a:Act} {w:World} (h:PI W0 g b L R base ds d a w) {j:Nat} (hj:j < 13) (hd:d j=false):d 13=false:=by
 obtain⟨_,_,_,_,_,_,_,h13⟩:=h
 cases e:d 13 with
 |false=>rfl
 |true=>have:=(h13 e).2 j hj;rw[hd] at this;cases this
theorem PI.put {W0:World} {g b:Nat} {L:List Int} {R base:Nat} {ds:List Deferred} {d:Nat→Bool} {a:Act} {w w':World} {j:Nat} {v:Value} (h:PI W0 g b L R base ds d a w) (hj:j < 13) (hd0:d j=false)
  (hv:pF g base j v w') (hk:KeepN base w w') (hw:PW W0 g b L R base w'):PI W0 g b L R base ds (fun i=>i == j || d i) (a.put (some (j+3)) v) w':=by
 have h13:=h.not13 hj hd0
 obtain⟨xs,hl,rfl,h0,h2,h1,_,_⟩:=h
 refine⟨xs.set (j+3) v,by simpa using hl,by simp[Act.put],?_,?_,fun i hi hd=>?_,hw,fun hd=>?_⟩
 ·rw[List.getD_eq_getElem?_getD,List.getElem?_set_ne (by omega),←List.getD_eq_getElem?_getD];exact h0
 ·rw[List.getD_eq_getElem?_getD,List.getElem?_set_ne (by omega),←List.getD_eq_getElem?_getD];exact h2
 ·by_cases hij:i=j
  ·subst hij
   rw[List.getD_eq_getElem?_getD,List.getElem?_set_self (by omega)];exact hv
  ·rw[List.getD_eq_getElem?_getD,List.getElem?_set_ne (by omega),←List.getD_eq_getElem?_getD]
   exact (h1 i hi (by simpa[hij] using hd)).keep hk
 ·have hne:(13 == j)=false:=by rw[beq_eq_false_iff_ne];omega
  change (13 == j || d 13)=true at hd
  rw[hne,Bool.false_or,h13] at hd;cases hd
theorem KeepN.refl (base:Nat) (w:World):KeepN base w w:=fun _ _ _ _ h=>h
theorem KeepN.alloc {base:Nat} {w:World} (o:Obj):KeepN base w (w.alloc o):=fun A k v _ h=>zP ((zBr _ _).alloc (Nat.le_refl _) o) h
theorem KeepN.grown {base g:Nat} {w w':World} (h:w.grownBy w' (some g)) (hg:g < base):KeepN base w w':=fun A k v hA hc=>h.cell hc (by simp;omega)
theorem lits_mem {w:World} {base:Nat} {x:Value} {vs:List Int} (h:Lits w base x vs) (h5:vs.length=5) {r:Nat} (hr:r < 5):∃ A,∃ hk:r < vs.length,base≤A∧x=.slice (some ⟨A,0,none⟩) 5 5∧w.cell? ⟨A,r,none⟩=some (.int .i64 vs[r]):=by
 obtain⟨A,h1,h2,h3⟩:=h
 exact⟨A,by omega,h1,h2,h3 r (by omega)⟩
theorem PW.alloc {W0:World} {g b:Nat} {L:List Int} {R base:Nat} {w:World} (h:PW W0 g b L R base w) (o:Obj):PW W0 g b L R base (w.alloc o):=by
 have hb:Below w.heap.size w (w.alloc o):=(zBr _ _).alloc (Nat.le_refl _) _
 obtain⟨⟨j,hc⟩,hg,hs,⟨c0,r0⟩,⟨c1,r1⟩,⟨c2,r2⟩,z0,z1,z2⟩:=h
 have hR:=zM _ _ r0
 have hR:R < w.heap.size:=hR
 exact⟨⟨j,hc.below hb⟩,grw_alloc hg _,by simp;omega,⟨c0,zP hb r0⟩,⟨c1,zP hb r1⟩,⟨c2,zP hb r2⟩,(hb.frozen hR).trans z0,(hb.frozen hR).trans z1,(hb.frozen hR).trans z2⟩
theorem PW.turn {W0:World} {g b:Nat} {L:List Int} {R base:Nat} {w w':World} (h:PW W0 g b L R base w) (hg:w.grownBy w' (some g)) (hR:R≠g) (hc:∃ j,CodesAt w' g b L j):PW W0 g b L R base w':=by
 obtain⟨_,hg0,hs,⟨c0,r0⟩,⟨c1,r1⟩,⟨c2,r2⟩,z0,z1,z2⟩:=h
 have hRl:R < w.heap.size:=zM _ _ r0
 have hb:=hg.block R hRl (by simpa using hR)
 have hs2:=hg.size
 exact⟨hc,hg0.trans hg,by omega,⟨c0,hg.cell r0 (by simpa using hR)⟩,⟨c1,hg.cell r1 (by simpa using hR)⟩,⟨c2,hg.cell r2 (by simpa using hR)⟩,(zFb hb).trans z0,(zFb hb).trans z1,(zFb hb).trans z2⟩
theorem PI.store {W0:World} {g b:Nat} {L:List Int} {R base:Nat} {ds:List Deferred} {d:Nat→Bool} {a:Act} {w:World} {f s n:Int} (h:PI W0 g b L R base ds d a w) (hP:PrC f s n) (hall:∀ j,j < 13→d j=true)
  (hR:W0.heap.size≤R) (hRg:R≠g) (hRb:R < base) (hb:0 < L.length→b < W0.heap.size) :
  PI W0 g b L R base ds (fun j=>j == 13 || d j) a (((w.setCell ⟨R,0,none⟩ (.int .i64 f)).setCell ⟨R,1,none⟩ (.int .i64 s)).setCell ⟨R,2,none⟩ (.int .i64 n)):=by
 obtain⟨xs,hl,rfl,h0,h2,h1,⟨⟨j,hC⟩,hg,hs,⟨c0,r0⟩,⟨c1,r1⟩,⟨c2,r2⟩,z0,z1,z2⟩,h13⟩:=h
 have hk:KeepN base w (((w.setCell ⟨R,0,none⟩ (.int .i64 f)).setCell ⟨R,1,none⟩ (.int .i64 s)).setCell ⟨R,2,none⟩ (.int .i64 n)):=fun A k v hA hc=>by
  rw[zK _ _ _ _ (by first|(simp;done)|(simp;omega)),zK _ _ _ _ (by first|(simp;done)|(simp;omega)),zK _ _ _ _ (by first|(simp;done)|(simp;omega))];exact hc
 have e0:(((w.setCell ⟨R,0,none⟩ (.int .i64 f)).setCell ⟨R,1,none⟩ (.int .i64 s)).setCell ⟨R,2,none⟩ (.int .i64 n)).cell? ⟨R,0,none⟩=some (.int .i64 f):=by
  rw[zK _ _ _ _ (by simp),zK _ _ _ _ (by simp)];exact zL _ _ _ (by rw[r0];rfl)
 have e1:(((w.setCell ⟨R,0,none⟩ (.int .i64 f)).setCell ⟨R,1,none⟩ (.int .i64 s)).setCell ⟨R,2,none⟩ (.int .i64 n)).cell? ⟨R,1,none⟩=some (.int .i64 s):=by
  rw[zK _ _ _ _ (by simp)];exact zL _ _ _ (by rw[zK _ _ _ _ (by simp),r1];rfl)
 have e2:(((w.setCell ⟨R,0,none⟩ (.int .i64 f)).setCell ⟨R,1,none⟩ (.int .i64 s)).setCell ⟨R,2,none⟩ (.int .i64 n)).cell? ⟨R,2,none⟩=some (.int .i64 n):=
  zL _ _ _ (by rw[zK _ _ _ _ (by simp),zK _ _ _ _ (by simp),r2];rfl)
 refine⟨xs,hl,rfl,h0,h2,fun i hi hd=>(h1 i hi (hall i hi)).keep hk,⟨⟨j,?_⟩,grw_set (grw_set (grw_set hg (.inr hR)) (.inr hR)) (.inr hR),by simpa[World.setCell] using hs,⟨_,e0⟩,⟨_,e1⟩,⟨_,e2⟩,?_,?_,?_⟩,fun _=>⟨⟨f,s,n,hP,e0,e1,e2⟩,fun i hi=>?_⟩⟩
 ·have hh:∀ q,q≠R→(((w.setCell ⟨R,0,none⟩ (.int .i64 f)).setCell ⟨R,1,none⟩ (.int .i64 s)).setCell ⟨R,2,none⟩ (.int .i64 n)).heap[q]?=w.heap[q]?:=fun q hq=>by
   rw[Below.heap_setCell _ _ _ q hq,Below.heap_setCell _ _ _ q hq,Below.heap_setCell _ _ _ q hq]
  exact hC.kept (hh g (Ne.symm hRg)) (fun hp=>hh b (by have:=hb hp;omega))
 ·simp only[World.frozen?_setCell];exact z0
 ·simp only[World.frozen?_setCell];exact z1
 ·simp only[World.frozen?_setCell];exact z2
 ·show (i == 13 || d i)=true
  rw[hall i hi];simp
theorem cprec_any (w:World) (g b:Nat) (L:List Int) (i:Nat) (h:CodesAt w g b L i) :
  Calls Tryz.prog 14 #[.pointer (some ⟨g,0,none⟩)] w fun e w'=>∃ f s a,e=.returned (prv f s a)∧PrC f s a∧w.grownBy w' (some g)∧∃ j,CodesAt w' g b L j:=by
 have hg:=h.lt
 have hbl:0 < L.length→b < w.heap.size:=fun h0=>h.ltb h0
 go_enter Tryz.func14,Tryz.ntmps14
 go_wp2
 have hB:Below w.heap.size w (w.alloc (.cells #[.int .i64 0,.int .i64 0,.int .i64 0] 23)):=(by repeat (first|(with_reducible first|assumption|exact zBr _ _|refine zBs ?_ (by first|omega|(simp<;>omega)) _|refine zBa ?_ (by first|omega|(simp<;>omega)) _|apply zBd)|assumption))
 have hPW:PW w g b L w.heap.size (w.heap.size+1) (w.alloc (.cells #[.int .i64 0,.int .i64 0,.int .i64 0] 23)).drew:=
  ⟨⟨i,(h.below hB).kept rfl (fun _=>rfl)⟩,grw_drew (grw_below hB _),by simp,⟨.int .i64 0,(by simp[zO,zJ,zQ])⟩,⟨.int .i64 0,(by simp[zO,zJ,zQ])⟩,⟨.int .i64 0,(by simp[zO,zJ,zQ])⟩,(by simp[RX.frozen_drew,RX.frozen_alloc,zQ]),(by simp[RX.frozen_drew,RX.frozen_alloc,zQ]),(by simp[RX.frozen_drew,RX.frozen_alloc,zQ])⟩
 have hRg:w.heap.size≠g:=by omega
 have hgb:g < w.heap.size+1:=by omega
 clear hB h
 refine RX.regionI (PI w g b L w.heap.size (w.heap.size+1) []) (by kernel_rfl) (by kernel_rfl) ?_ ?_ ?_
 ·exact⟨_,rfl,rfl,rfl,rfl,fun j _ h=>absurd h (by simp),hPW,fun h=>absurd h (by simp)⟩
 ·clear hPW
  refine⟨?_,?_,?_,?_,?_,?_,?_,?_,?_,?_,?_,?_,?_,?_,trivial⟩
  ·intro d a w hd hdep hI
   have e0:=hI.e0
   go_wp2
   exact hI.put (j:=0) (by omega) hd rfl (KeepN.refl _ _) hI.world
  ·intro d a w hd hdep hI
   have e:a.tmps[3]?.getD undef=_:=hI.at 0 3 rfl (by omega) (hdep ⟨0,.data⟩ (by simp) rfl)
   go_wp2_with fail
   obtain⟨j,hC⟩:=hI.world.codes
   refine (cfreq_any _ g b L j hC).mono ?_
   rintro e w' ⟨f,rfl,hf1,hf2,hG,hC2⟩
   exact hI.put (j:=1) (by omega) hd ⟨f,rfl,hf1,hf2⟩ (KeepN.grown hG hgb) (hI.world.turn hG hRg hC2)
  ·intro d a w hd hdep hI
   go_wp2
   refine hI.put (j:=2) (by omega) hd ⟨w.heap.size,hI.world.size,rfl,fun k hk=>?_⟩ (KeepN.alloc _) (hI.world.alloc _)
   match k,hk with
   |0,_|1,_|2,_|3,_|4,_=>simp[zJ];rfl
   |k+5,hk=>exact absurd hk (by simp[smooths])
  ·intro d a w hd hdep hI
   have e0:=hI.e0
   go_wp2
   exact hI.put (j:=3) (by omega) hd rfl (KeepN.refl _ _) hI.world
  ·intro d a w hd hdep hI
   have e:a.tmps[6]?.getD undef=_:=hI.at 3 6 rfl (by omega) (hdep ⟨3,.data⟩ (by simp) rfl)
   go_wp2_with fail
   obtain⟨j,hC⟩:=hI.world.codes
   refine (next_any _ g b L j 5 hC (by omega)).mono ?_
   rintro e w' ⟨f,rfl,hf,hG,hC2⟩
   exact hI.put (j:=4) (by omega) hd ⟨f,rfl,by omega⟩ (KeepN.grown hG hgb) (hI.world.turn hG hRg hC2)
  ·intro d a w hd hdep hI
   have e1:Lits _ _ _ _:=hI.at 2 5 rfl (by omega) (hdep ⟨2,.data⟩ (by simp) rfl)
   obtain⟨r,e2,hr⟩:∃ r:Nat,_=Value.int .i64 (r:Int)∧r < 5:=hI.at 4 7 rfl (by omega) (hdep ⟨4,.data⟩ (by simp) rfl)
   obtain⟨A,hk,hA,e3,hc⟩:=lits_mem e1 rfl hr
   have hr0:(0:Int)≤(r:Int):=by omega
   have hr5:(r:Int) < 5:=by omega
   clear e1
   go_wp2
   exact hI.put (j:=5) (by omega) hd ⟨A,r,hk,hA,rfl,hc⟩ (KeepN.refl _ _) hI.world
  ·intro d a w hd hdep hI
   obtain⟨A,k,hk,hA,e1,hc⟩:PtrTo _ _ _ _:=hI.at 5 8 rfl (by omega) (hdep ⟨5,.data⟩ (by simp) rfl)
   obtain⟨x,hx⟩:∃ x,x=smooths[k]:=⟨_,rfl⟩
   rw[←hx] at hc
   have hm:x∈smooths:=by rw[hx];exact List.getElem_mem hk
   clear hx
   go_wp2
   exact hI.put (j:=6) (by omega) hd ⟨x,rfl,hm⟩ (KeepN.refl _ _) hI.world
  ·intro d a w hd hdep hI
   go_wp2
   refine hI.put (j:=7) (by omega) hd ⟨w.heap.size,hI.world.size,rfl,fun k hk=>?_⟩ (KeepN.alloc _) (hI.world.alloc _)
   match k,hk with
   |0,_|1,_|2,_|3,_|4,_=>simp[zJ];rfl
   |k+5,hk=>exact absurd hk (by simp[anchors])
  ·intro d a w hd hdep hI
   have e0:=hI.e0
   go_wp2
   exact hI.put (j:=8) (by omega) hd rfl (KeepN.refl _ _) hI.world
  ·intro d a w hd hdep hI
   have e:a.tmps[11]?.getD undef=_:=hI.at 8 11 rfl (by omega) (hdep ⟨8,.data⟩ (by simp) rfl)
   go_wp2_with fail
   obtain⟨j,hC⟩:=hI.world.codes
   refine (next_any _ g b L j 5 hC (by omega)).mono ?_
   rintro e w' ⟨f,rfl,hf,hG,hC2⟩
   exact hI.put (j:=9) (by omega) hd ⟨f,rfl,by omega⟩ (KeepN.grown hG hgb) (hI.world.turn hG hRg hC2)
  ·intro d a w hd hdep hI
   have e1:Lits _ _ _ _:=hI.at 7 10 rfl (by omega) (hdep ⟨7,.data⟩ (by simp) rfl)
   obtain⟨r,e2,hr⟩:∃ r:Nat,_=Value.int .i64 (r:Int)∧r < 5:=hI.at 9 12 rfl (by omega) (hdep ⟨9,.data⟩ (by simp) rfl)
   obtain⟨A,hk,hA,e3,hc⟩:=lits_mem e1 rfl hr
   have hr0:(0:Int)≤(r:Int):=by omega
   have hr5:(r:Int) < 5:=by omega
   clear e1
   go_wp2
   exact hI.put (j:=10) (by omega) hd ⟨A,r,hk,hA,rfl,hc⟩ (KeepN.refl _ _) hI.world
  ·intro d a w hd hdep hI
   obtain⟨A,k,hk,hA,e1,hc⟩:PtrTo _ _ _ _:=hI.at 10 13 rfl (by omega) (hdep ⟨10,.data⟩ (by simp) rfl)
   obtain⟨x,hx⟩:∃ x,x=anchors[k]:=⟨_,rfl⟩
   rw[←hx] at hc
   have hm:x∈anchors:=by rw[hx];exact List.getElem_mem hk
   clear hx
   go_wp2
   exact hI.put (j:=11) (by omega) hd ⟨x,rfl,hm⟩ (KeepN.refl _ _) hI.world
  ·intro d a w hd hdep hI
   obtain⟨f,e1,hf1,hf2⟩:∃ f:Nat,_=Value.int .i64 (f:Int)∧_:=hI.at 1 4 rfl (by omega) (hdep ⟨1,.data⟩ (by simp) rfl)
   obtain⟨s,e2,hs⟩:∃ s:Int,_=Value.int .i64 s∧_:=hI.at 6 9 rfl (by omega) (hdep ⟨6,.data⟩ (by simp) rfl)
   obtain⟨n,e3,hn⟩:∃ s:Int,_=Value.int .i64 s∧_:=hI.at 11 14 rfl (by omega) (hdep ⟨11,.data⟩ (by simp) rfl)
   go_wp2
   exact hI.put (j:=12) (by omega) hd ⟨f,s,n,rfl,⟨by omega,by omega⟩,hs,hn⟩ (KeepN.refl _ _) hI.world
  ·intro d a w hd hdep hI
   obtain⟨f,s,n,e9,hP⟩:∃ f s n,_=prv f s n∧_:=hI.at 12 15 rfl (by omega) (hdep ⟨12,.data⟩ (by simp) rfl)
   have e1:a.tmps[15]?.getD undef=.agg #[.int .i64 f,.int .i64 s,.int .i64 n]:=e9
   clear e9
   have e2:=hI.e2
   obtain⟨hC,hG,hs,⟨c0,r0⟩,⟨c1,r1⟩,⟨c2,r2⟩,z0,z1,z2⟩:=hI.world
   go_wp2
   have hall:∀ j,j < 13→d j=true:=by
    intro j hj
    have:j=0∨j=1∨j=2∨j=3∨j=4∨j=5∨j=6∨j=7∨j=8∨j=9∨j=10∨j=11∨j=12:=by omega
    rcases this with rfl|rfl|rfl|rfl|rfl|rfl|rfl|rfl|rfl|rfl|rfl|rfl|rfl<;>exact hdep ⟨_,.phase⟩ (by simp) rfl
   exact hI.store hP hall (Nat.le_refl _) hRg (by omega) hbl
 ·intro d a w' hall hI
  obtain⟨xs,hl,rfl,h0,h2,_,hW,h13⟩:=hI
  obtain⟨⟨f,s,n,hP,c0,c1,c2⟩,_⟩:=h13 (hall 13 (by simp))
  clear hPW h13
  have e2:xs[2]?=some (.pointer (some ⟨w.heap.size,0,none⟩)):=by
   rw[List.getD_eq_getElem?_getD,List.getElem?_eq_getElem (by omega)] at h2
   rw[List.getElem?_eq_getElem (by omega)];exact congrArg some h2
  go_wp2
  refine bodyPost_ret (v:=.agg #[.int .i64 f,.int .i64 s,.int .i64 n]) ?_ rfl ⟨f,s,n,rfl,hP,hW.grown,hW.codes⟩
  simp[results,Tryz.results14,go_sem,e2,c0,c1,c2]
theorem r22nodes_any (f:Int) (w:World) (h1:1≤f) (h2:f≤8) :
  Calls Tryz.prog 50 #[.int .i64 f] w fun e w'=>e=.returned (.int .i64 (10*f*f+2))∧w=w':=by
 have b1:0≤10*f*f:=Int.mul_nonneg (by omega) (by omega)
 have b2:=Int.mul_le_mul (show 10*f≤80 by omega) h2 (by omega) (by omega)
 obtain⟨x,hx⟩:∃ x,10*f*f=x:=⟨_,rfl⟩
 rw[hx] at b1 b2 ⊢
 go_enter Tryz.func50,Tryz.ntmps50
 go_wp2
 go_ret
 exact⟨rfl,rfl⟩
theorem Within.mono {m m':Nat} {zs:List Int} (h:Within m zs) (hm:m≤m'):Within m' zs:=fun x hx=>by have:=h x hx;omega
theorem cfor_any (w:World) (g b:Nat) (L:List Int) (i:Nat) (f s a:Int) (h:CodesAt w g b L i) (hb0:0 < L.length→b < w.heap.size) (hP:PrC f s a) :
  Calls Tryz.prog 18 #[.pointer (some ⟨g,0,none⟩),prv f s a] w fun e w'=>∃ v zs,e=.returned v∧(zs.length:Int)=10*f*f+2∧Within 1048576 zs∧RowV w' w.heap.size v zs∧w.grownBy w' (some g)∧∃ j,CodesAt w' g b L j:=by
 have hg:=h.lt
 obtain⟨⟨hf1,hf2⟩,_,_⟩:=hP
 have b1:0≤10*f*f:=Int.mul_nonneg (by omega) (by omega)
 have b2:=Int.mul_le_mul (show 10*f≤20 by omega) hf2 (by omega) (by omega)
 obtain⟨n,hn⟩:∃ n:Nat,10*f*f+2=n:=⟨(10*f*f+2).toNat,by omega⟩
 have hn1:n≤1000:=by omega
 have HN:=zN hn
 have hpv:Hid (prv f s a=.agg #[.int .i64 f,.int .i64 s,.int .i64 a]):=zN rfl
 rw[hpv.out]
 clear hn b1 b2
 go_enter Tryz.func18,Tryz.ntmps18
 go_wp2_with fail
 refine (r22nodes_any f _ (by omega) (by omega)).mono ?_
 rintro e w0 ⟨rfl,rfl⟩
 rw[HN.out]
 go_wp2_with fail
 have hB:Below w.heap.size w ((w.alloc (.cells #[.int .i64 f,.int .i64 s,.int .i64 a] 23)).alloc (.cells #[.int .i64 20,.int .i64 1000,.int .i64 1048576] 3)):=(by repeat (first|(with_reducible first|assumption|exact zBr _ _|refine zBs ?_ (by first|omega|(simp<;>omega)) _|refine zBa ?_ (by first|omega|(simp<;>omega)) _|apply zBd)|assumption))
 have c:∀ k,k < 3→∃ m:Nat,((w.alloc (.cells #[.int .i64 f,.int .i64 s,.int .i64 a] 23)).alloc (.cells #[.int .i64 20,.int .i64 1000,.int .i64 1048576] 3)).cell? ⟨w.heap.size+1,k,none⟩=some (.int .i64 m)∧m≤1048576:=by
  intro k hk
  match k,hk with
  |0,_=>exact⟨20,(by simp[zO,zJ,zQ]),by omega⟩
  |1,_=>exact⟨1000,(by simp[zO,zJ,zQ]),by omega⟩
  |2,_=>exact⟨1048576,(by simp[zO,zJ,zQ]),by omega⟩
  |k+3,hk=>omega
 have hC:=h.below hB
 have hs0:((w.alloc (.cells #[.int .i64 f,.int .i64 s,.int .i64 a] 23)).alloc (.cells #[.int .i64 20,.int .i64 1000,.int .i64 1048576] 3)).heap.size=w.heap.size+2:=by simp
 generalize ((w.alloc (.cells #[.int .i64 f,.int .i64 s,.int .i64 a] 23)).alloc (.cells #[.int .i64 20,.int .i64 1000,.int .i64 1048576] 3))=W0 at *
 refine (next_any _ g b L i 3 hC (by omega)).mono ?_
 rintro e w1 ⟨r,rfl,hr,hg1,j,h1⟩
 have hr3:r < 3:=by omega
 obtain⟨m,hm,hm1⟩:=c r hr3
 have hc:=hg1.cell hm (by simp;omega)
 have hG:w.grownBy w1 (some g):=(grw_below hB _).trans hg1
 have hs1:w.heap.size≤w1.heap.size:=hG.size
 clear c hm hg1 hB hC hs0 h
 clear W0
 go_wp2_with fail
 refine (cvec_any w1 g b L j n m h1 (fun h0=>by have:=hb0 h0;omega) hn1 (by omega)).mono ?_
 rintro e w2 ⟨v,zs,rfl,hlen,hW,hrow,hg2,j2,h2⟩
 obtain⟨p,cap,rfl,hcap⟩:=own_slice hrow
 have HR:=zN (And.intro hlen (And.intro hW (And.intro hrow (And.intro (hG.trans hg2) h2))))
 clear hlen hW hrow hg2 h2 hG h1 hc
 go_wp2
 go_ret
 exact⟨_,zs,rfl,by rw[HR.out.1,←HN.out],HR.out.2.1.mono (by omega),HR.out.2.2.1.mono hs1,HR.out.2.2.2.1,j2,HR.out.2.2.2.2⟩
theorem int_any (w:World) (g b:Nat) (L:List Int) (i:Nat) (h:CodesAt w g b L i) :
  Calls Tryz.prog 53 #[.pointer (some ⟨g,0,none⟩)] w fun e w'=>∃ x:Int,e=.returned (.int .i64 x)∧-9223372036854775808≤x∧x≤9223372036854775807∧w.grownBy w' (some g)∧∃ j,CodesAt w' g b L j:=by
 have hg:=h.lt
 go_enter Tryz.func53,Tryz.ntmps53
 go_wp2_with fail
 obtain⟨ls,hls⟩:∃ l:List Value,l=[.int .i64 9223372036854775807,.int .i64 (-9223372036854775808),.int .i64 144115188075855872,.int .i64 144115188075855873,.int .i64 (-1),.int .i64 4294967296,.int .i64 1048576,.int .i64 1048577,.int .i64 4194304,.int .i64 1000001,.int .i64 0,.int .i64 17]:=⟨_,rfl⟩
 have hall:∀ k:Nat,k < 12→∃ x:Int,ls[k]?=some (.int .i64 x)∧-9223372036854775808≤x∧x≤9223372036854775807:=by
  subst hls
  intro k hk
  match k,hk with
  |0,_|1,_|2,_|3,_|4,_|5,_|6,_|7,_|8,_|9,_|10,_|11,_=>exact⟨_,rfl,by decide,by decide⟩
  |k+12,hk=>omega
 rw[←show ls.toArray=#[.int .i64 9223372036854775807,.int .i64 (-9223372036854775808),.int .i64 144115188075855872,.int .i64 144115188075855873,.int .i64 (-1),.int .i64 4294967296,.int .i64 1048576,.int .i64 1048577,.int .i64 4194304,.int .i64 1000001,.int .i64 0,.int .i64 17] by rw[hls]]
 clear hls
 have h1:CodesAt (w.alloc (.cells ls.toArray 3)) g b L i:=h.below ((zBr _ _).alloc (Nat.le_refl _) _)
 refine (next_any _ g b L i 4 h1 (by omega)).mono ?_
 rintro e w1 ⟨r,rfl,hr,hw1,j,h2⟩
 by_cases hr3:r=3
 ·subst hr3
  go_wp2_with fail
  refine (next_any _ g b L j 12 h2 (by omega)).mono ?_
  rintro e w2 ⟨s,rfl,hs,hw2,j2,h3⟩
  obtain⟨x,hx,hx1,hx2⟩:=hall s (by omega)
  have hc:(w.alloc (.cells ls.toArray 3)).cell? ⟨w.heap.size,s,none⟩=some (.int .i64 x):=by rw[zJ];simpa using hx
  have hc2:=hw2.cell (hw1.cell hc (by simp;omega)) (by simp;omega)
  go_wp2
  go_ret
  exact⟨x,rfl,hx1,hx2,(World.grownBy_alloc _ _ _).trans (hw1.trans hw2),j2,h3⟩
 ·go_wp2_with fail
  refine (next_any _ g b L j 256 h2 (by omega)).mono ?_
  rintro e w2 ⟨s,rfl,hs,hw2,j2,h3⟩
  go_wp2
  go_ret
  exact⟨_,rfl,by omega,by omega,(World.grownBy_alloc _ _ _).trans (hw1.trans hw2),j2,h3⟩
end Go.Proofs.YtojkamfabapcoaaGreatDoor
