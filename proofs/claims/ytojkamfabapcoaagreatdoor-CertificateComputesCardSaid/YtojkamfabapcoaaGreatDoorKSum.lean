import Derived.Test.YtojkamfabapcoaaGreatDoorKCmp
import Derived.Test.YtojkamfabapcoaaGreatDoorLaid
import Derived.Test.YtojkamfabapcoaaGreatDoorLaidAdd
set_option maxRecDepth 100000
set_option maxHeartbeats 8000000
set_option linter.unusedSimpArgs false
set_option linter.unusedVariables false
namespace Go.Proofs.YtojkamfabapcoaaGreatDoor
open Go.RowKit
theorem compare_any (h1 l1 h2 l2:Int) (w:World) :
  Calls Tryz.prog 86 #[.agg #[.int .i64 h1,.int .u64 l1],.agg #[.int .i64 h2,.int .u64 l2]] w fun e w'=>e=.returned (.int .i64 (cmpW h1 l1 h2 l2))∧Below w.heap.size w w':=by
 unfold cmpW
 go_enter Tryz.func86,Tryz.ntmps86
 go_wp2
 refine RX.region RX.fL (fun w'=>w'.cell? ⟨w.heap.size,0,none⟩=some (.int .i64 h1)∧w'.cell? ⟨w.heap.size,1,none⟩=some (.int .u64 l1)∧w'.cell? ⟨w.heap.size+1,0,none⟩=some (.int .i64 h2)∧w'.cell? ⟨w.heap.size+1,1,none⟩=some (.int .u64 l2)) (by kernel_rfl) (by kernel_rfl) ((by simp[zO,zJ,zQ])) (fun OPS HO QR hQR=>?_)
 repeat (refine zeX (fun R hR=>?_);(first|refine zaX (by first|rfl|(rw[HO.out];rfl)) (by simp only[zA,zB,zC,zD];rfl) ?_|refine zbX (by first|rfl|(rw[HO.out];rfl)) rfl (by first|exact .inl rfl|exact .inr rfl) (by simp only[zE,zF,zG,zH];rfl) (by simp only[zA,zB,zC,zD];rfl) ?_|(refine zdX (by first|rfl|(rw[HO.out];rfl)) rfl rfl rfl ?_;apply zEx;apply zEx;refine⟨fun w' hS K hK=>?_,?_,?_⟩;(focus (obtain⟨hS1,hS2,hS3,hS4⟩:=hS;go_wp2;exact hK _ _ (by simp only[zl,zG,zH];first|exact zf (by omega)|exact zg (by omega)|exact zh (by omega)|exact zi (by omega)|exact zj (by omega)|exact zk (by omega)|exact RX.bneB _|rfl) rfl));(focus (simp only[zA,zB,zC,zD];rfl))));refine hR _ _ ?_;clear hR R)
 refine zeX (fun R hR=>?_)
 refine zgX (by first|rfl|(rw[HO.out];rfl)) rfl (fun K hK=>?_)
 go_wp2_with (go_at_call 116;refine (cmp_int _ _ _).mono ?_;rintro e w' ⟨rfl,rfl⟩)
 refine⟨(by simp[zO,zJ,zQ]),hR _ _ ?_⟩;clear hR R
 repeat (refine zeX (fun R hR=>?_);(first|refine zaX (by first|rfl|(rw[HO.out];rfl)) (by simp only[zA,zB,zC,zD];rfl) ?_|refine zbX (by first|rfl|(rw[HO.out];rfl)) rfl (by first|exact .inl rfl|exact .inr rfl) (by simp only[zE,zF,zG,zH];rfl) (by simp only[zA,zB,zC,zD];rfl) ?_|(refine zdX (by first|rfl|(rw[HO.out];rfl)) rfl rfl rfl ?_;apply zEx;apply zEx;refine⟨fun w' hS K hK=>?_,?_,?_⟩;(focus (obtain⟨hS1,hS2,hS3,hS4⟩:=hS;go_wp2;exact hK _ _ (by simp only[zl,zG,zH];first|exact zf (by omega)|exact zg (by omega)|exact zh (by omega)|exact zi (by omega)|exact zj (by omega)|exact zk (by omega)|exact RX.bneB _|rfl) rfl));(focus (simp only[zA,zB,zC,zD];rfl))));refine hR _ _ ?_;clear hR R)
 refine zeX (fun R hR=>?_)
 refine zgX (by first|rfl|(rw[HO.out];rfl)) rfl (fun K hK=>?_)
 go_wp2_with (go_at_call 117;refine (cmp_u64 _ _ _).mono ?_;rintro e w' ⟨rfl,rfl⟩)
 refine⟨(by simp[zO,zJ,zQ]),hR _ _ ?_⟩;clear hR R
 repeat (refine zeX (fun R hR=>?_);(first|refine zaX (by first|rfl|(rw[HO.out];rfl)) (by simp only[zA,zB,zC,zD];rfl) ?_|refine zbX (by first|rfl|(rw[HO.out];rfl)) rfl (by first|exact .inl rfl|exact .inr rfl) (by simp only[zE,zF,zG,zH];rfl) (by simp only[zA,zB,zC,zD];rfl) ?_|(refine zdX (by first|rfl|(rw[HO.out];rfl)) rfl rfl rfl ?_;apply zEx;apply zEx;refine⟨fun w' hS K hK=>?_,?_,?_⟩;(focus (obtain⟨hS1,hS2,hS3,hS4⟩:=hS;go_wp2;exact hK _ _ (by simp only[zl,zG,zH];first|exact zf (by omega)|exact zg (by omega)|exact zh (by omega)|exact zi (by omega)|exact zj (by omega)|exact zk (by omega)|exact RX.bneB _|rfl) rfl));(focus (simp only[zA,zB,zC,zD];rfl))));refine hR _ _ ?_;clear hR R)
 refine zeX (fun R hR=>?_)
 refine zgX (by first|rfl|(rw[HO.out];rfl)) rfl (fun K hK=>?_)
 go_wp2
 refine⟨(by simp[zO,zJ,zQ]),hR _ _ ?_⟩;clear hR R
 repeat (refine zeX (fun R hR=>?_);(first|refine zaX (by first|rfl|(rw[HO.out];rfl)) (by simp only[zA,zB,zC,zD];rfl) ?_|refine zbX (by first|rfl|(rw[HO.out];rfl)) rfl (by first|exact .inl rfl|exact .inr rfl) (by simp only[zE,zF,zG,zH];rfl) (by simp only[zA,zB,zC,zD];rfl) ?_|(refine zdX (by first|rfl|(rw[HO.out];rfl)) rfl rfl rfl ?_;apply zEx;apply zEx;refine⟨fun w' hS K hK=>?_,?_,?_⟩;(focus (obtain⟨hS1,hS2,hS3,hS4⟩:=hS;go_wp2;exact hK _ _ (by simp only[zl,zG,zH];first|exact zf (by omega)|exact zg (by omega)|exact zh (by omega)|exact zi (by omega)|exact zj (by omega)|exact zk (by omega)|exact RX.bneB _|rfl) rfl));(focus (simp only[zA,zB,zC,zD];rfl))));refine hR _ _ ?_;clear hR R)
 refine zeX (fun R hR=>?_)
 refine zgX (by first|rfl|(rw[HO.out];rfl)) rfl (fun K hK=>?_)
 go_wp2_with fail
 refine (or_int _ _ _ [sgn h1 h2,sgn l1 l2] _ rfl ?_ (by simp)).mono ?_
 ·intro j v hj
  match j,hj with
  |0,hj=>simp at hj;subst hj;exact (by simp[zO,zJ,zQ])
  |1,hj=>simp at hj;subst hj;exact (by simp[zO,zJ,zQ])
 rintro e w' ⟨rfl,rfl⟩
 refine hK _ _ ⟨(by simp[zO,zJ,zQ]),hR _ _ ?_⟩;clear hK K hR R
 repeat (refine zeX (fun R hR=>?_);(first|refine zaX (by first|rfl|(rw[HO.out];rfl)) (by simp only[zA,zB,zC,zD];rfl) ?_|refine zbX (by first|rfl|(rw[HO.out];rfl)) rfl (by first|exact .inl rfl|exact .inr rfl) (by simp only[zE,zF,zG,zH];rfl) (by simp only[zA,zB,zC,zD];rfl) ?_|(refine zdX (by first|rfl|(rw[HO.out];rfl)) rfl rfl rfl ?_;apply zEx;apply zEx;refine⟨fun w' hS K hK=>?_,?_,?_⟩;(focus (go_wp2;exact hK _ _ (by simp only[zl,zG,zH];first|exact zf (by omega)|exact zg (by omega)|exact zh (by omega)|exact zi (by omega)|exact zj (by omega)|exact zk (by omega)|exact RX.bneB _|rfl) rfl));(focus (simp only[zA,zB,zC,zD];rfl))));refine hR _ _ ?_;clear hR R)
 refine RX.wpL_nil (hQR _ _ ((by simp[zO,zJ,zQ])) ?_);clear hQR QR HO OPS
 go_wp2
 go_ret
 exact⟨rfl,(by repeat (first|(with_reducible first|assumption|exact zBr _ _|refine zBs ?_ (by first|omega|simp<;>omega) _|refine zBa ?_ (by first|omega|simp<;>omega) _|apply zBd)|assumption))⟩
theorem product_any (a b:Int) (w:World) (ha:-9223372036854775808≤a) (ha':a≤9223372036854775807) (hb:-9223372036854775808≤b) (hb':b≤9223372036854775807) :
  Calls Tryz.prog 39 #[.int .i64 a,.int .i64 b] w fun e w'=>e=.returned (.agg #[.int .i64 (a*b / 18446744073709551616),.int .u64 (a*b % 18446744073709551616)])∧Below w.heap.size w w':=by
 obtain⟨x,hx1,hx2,hx3⟩:=u64_nat a ha ha'
 obtain⟨y,hy1,hy2,hy3⟩:=u64_nat b hb hb'
 have HR:=zN (And.intro ha (And.intro ha' (And.intro hb hb')))
 have HX:=zN hx3
 have HY:=zN hy3
 clear hx3 hy3 ha ha' hb hb'
 by_cases h1:a < 0
 ·by_cases h2:b < 0
  ·go_enter Tryz.func39,Tryz.ntmps39
   go_wp2_with fail
   refine (Tryz.bits_Mul64 x y hx2 hy2 _).mono ?_
   rintro e w1 ⟨rfl,rfl⟩
   generalize hH:x*y / 18446744073709551616=H
   generalize hL:x*y % 18446744073709551616=L
   have HQ:Hid (wrap64 (IntKind.u64.wrap (IntKind.u64.wrap ((H:Int)-(y:Int))-(x:Int)))=a*b / 18446744073709551616∧(L:Int)=a*b % 18446744073709551616):=by
    have hX:=HX.out
    have hY:=HY.out
    rw[if_pos (by omega)] at hX
    rw[if_pos (by omega)] at hY
    obtain⟨k1,e1⟩:=u64_sub ((H:Int)-(y:Int))
    obtain⟨k2,e2⟩:=u64_sub (IntKind.u64.wrap ((H:Int)-(y:Int))-(x:Int))
    show _∧_
    rw[←IntWalk.i64_left]
    exact prod_halves a b x y H L 1 1 HR.out.1 HR.out.2.1 HR.out.2.2.1 HR.out.2.2.2 (by omega) (by omega) (by omega) (by omega) (by omega) (by omega) _ (k1+k2) (by rw[e2,e1];omega)
   clear hH hL hx2 hy2
   go_wp2
   refine bodyPost_ret (v:=.agg #[.int .i64 (a*b / 18446744073709551616),.int .u64 (a*b % 18446744073709551616)]) ?_ rfl ⟨rfl,?_⟩
   ·rw[HQ.out.1,HQ.out.2];simp[results,Tryz.results39,go_sem]
   ·exact (by repeat (first|(with_reducible first|assumption|exact zBr _ _|refine zBs ?_ (by first|omega|simp<;>omega) _|refine zBa ?_ (by first|omega|simp<;>omega) _|apply zBd)|assumption))
  ·go_enter Tryz.func39,Tryz.ntmps39
   go_wp2_with fail
   refine (Tryz.bits_Mul64 x y hx2 hy2 _).mono ?_
   rintro e w1 ⟨rfl,rfl⟩
   generalize hH:x*y / 18446744073709551616=H
   generalize hL:x*y % 18446744073709551616=L
   have HQ:Hid (wrap64 (IntKind.u64.wrap ((H:Int)-(y:Int)))=a*b / 18446744073709551616∧(L:Int)=a*b % 18446744073709551616):=by
    have hX:=HX.out
    have hY:=HY.out
    rw[if_pos (by omega)] at hX
    rw[if_neg (by omega)] at hY
    obtain⟨k1,e1⟩:=u64_sub ((H:Int)-(y:Int))
    show _∧_
    rw[←IntWalk.i64_left]
    exact prod_halves a b x y H L 1 0 HR.out.1 HR.out.2.1 HR.out.2.2.1 HR.out.2.2.2 (by omega) (by omega) (by omega) (by omega) (by omega) (by omega) _ k1 (by rw[e1];omega)
   clear hH hL hx2 hy2
   go_wp2
   refine bodyPost_ret (v:=.agg #[.int .i64 (a*b / 18446744073709551616),.int .u64 (a*b % 18446744073709551616)]) ?_ rfl ⟨rfl,?_⟩
   ·rw[HQ.out.1,HQ.out.2];simp[results,Tryz.results39,go_sem]
   ·exact (by repeat (first|(with_reducible first|assumption|exact zBr _ _|refine zBs ?_ (by first|omega|simp<;>omega) _|refine zBa ?_ (by first|omega|simp<;>omega) _|apply zBd)|assumption))
 ·by_cases h2:b < 0
  ·go_enter Tryz.func39,Tryz.ntmps39
   go_wp2_with fail
   refine (Tryz.bits_Mul64 x y hx2 hy2 _).mono ?_
   rintro e w1 ⟨rfl,rfl⟩
   generalize hH:x*y / 18446744073709551616=H
   generalize hL:x*y % 18446744073709551616=L
   have HQ:Hid (wrap64 (IntKind.u64.wrap ((H:Int)-(x:Int)))=a*b / 18446744073709551616∧(L:Int)=a*b % 18446744073709551616):=by
    have hX:=HX.out
    have hY:=HY.out
    rw[if_neg (by omega)] at hX
    rw[if_pos (by omega)] at hY
    obtain⟨k1,e1⟩:=u64_sub ((H:Int)-(x:Int))
    show _∧_
    rw[←IntWalk.i64_left]
    exact prod_halves a b x y H L 0 1 HR.out.1 HR.out.2.1 HR.out.2.2.1 HR.out.2.2.2 (by omega) (by omega) (by omega) (by omega) (by omega) (by omega) _ k1 (by rw[e1];omega)
   clear hH hL hx2 hy2
   go_wp2
   refine bodyPost_ret (v:=.agg #[.int .i64 (a*b / 18446744073709551616),.int .u64 (a*b % 18446744073709551616)]) ?_ rfl ⟨rfl,?_⟩
   ·rw[HQ.out.1,HQ.out.2];simp[results,Tryz.results39,go_sem]
   ·exact (by repeat (first|(with_reducible first|assumption|exact zBr _ _|refine zBs ?_ (by first|omega|simp<;>omega) _|refine zBa ?_ (by first|omega|simp<;>omega) _|apply zBd)|assumption))
  ·go_enter Tryz.func39,Tryz.ntmps39
   go_wp2_with fail
   refine (Tryz.bits_Mul64 x y hx2 hy2 _).mono ?_
   rintro e w1 ⟨rfl,rfl⟩
   generalize hH:x*y / 18446744073709551616=H
   generalize hL:x*y % 18446744073709551616=L
   have HQ:Hid (wrap64 ((H:Int))=a*b / 18446744073709551616∧(L:Int)=a*b % 18446744073709551616):=by
    have hX:=HX.out
    have hY:=HY.out
    rw[if_neg (by omega)] at hX
    rw[if_neg (by omega)] at hY
    show _∧_
    rw[←IntWalk.i64_left]
    exact prod_halves a b x y H L 0 0 HR.out.1 HR.out.2.1 HR.out.2.2.1 HR.out.2.2.2 (by omega) (by omega) (by omega) (by omega) (by omega) (by omega) _ 0 (by omega)
   clear hH hL hx2 hy2
   go_wp2
   refine bodyPost_ret (v:=.agg #[.int .i64 (a*b / 18446744073709551616),.int .u64 (a*b % 18446744073709551616)]) ?_ rfl ⟨rfl,?_⟩
   ·rw[HQ.out.1,HQ.out.2];simp[results,Tryz.results39,go_sem]
   ·exact (by repeat (first|(with_reducible first|assumption|exact zBr _ _|refine zBs ?_ (by first|omega|simp<;>omega) _|refine zBa ?_ (by first|omega|simp<;>omega) _|apply zBd)|assumption))
theorem add64_any (x y c:Nat) (hc:c≤1) (w:World) :
  (callFunc 108 #[.int .u64 x,.int .u64 y,.int .u64 c]).run Tryz.prog w =
   .ok (.value (.tuple #[.int .u64 (((x+y+c) % 18446744073709551616:Nat):Int),.int .u64 (((x+y+c) / 18446744073709551616:Nat):Int)])) w:=
 Any7.bits_Add64 Tryz.laysAdd x y c hc w
def wv (p:Int):Value:=.agg #[.int .i64 (wrap64 (p / 18446744073709551616)),.int .u64 (p % 18446744073709551616)]
theorem wv_of (h l:Int) (h1:-9223372036854775808≤h) (h2:h≤9223372036854775807) (l1:0≤l) (l2:l < 18446744073709551616) :
  (.agg #[.int .i64 h,.int .u64 l]:Value)=wv (h*18446744073709551616+l):=by
 have e1:(h*18446744073709551616+l) / 18446744073709551616=h:=by omega
 have e2:(h*18446744073709551616+l) % 18446744073709551616=l:=by omega
 have e3:wrap64 h=h:=by unfold wrap64;omega
 unfold wv;rw[e1,e2,e3]
theorem wv_add (h1 h2:Int) (l1 l2:Int) (p q:Int) (e1:h1=wrap64 (p / 18446744073709551616)) (e2:h2=wrap64 (q / 18446744073709551616))
  (f1:l1=p % 18446744073709551616) (f2:l2=q % 18446744073709551616) :
  (.agg #[.int .i64 (wrap64 (wrap64 (h1+h2)+wrap64 ((l1+l2) / 18446744073709551616))),.int .u64 ((l1+l2) % 18446744073709551616)]:Value)=wv (p+q):=by
 have g1:wrap64 (wrap64 (h1+h2)+wrap64 ((l1+l2) / 18446744073709551616))=wrap64 ((p+q) / 18446744073709551616):=by
  subst e1 e2;unfold wrap64;omega
 have g2:(l1+l2) % 18446744073709551616=(p+q) % 18446744073709551616:=by omega
 unfold wv;rw[g1,g2]
theorem not_i64 (x:Int) (h1:-9223372036854775808≤x) (h2:x≤9223372036854775807):bits .xor .i64 (-1) x=-x-1:=by
 show IntKind.i64.wrap ((BitVec.ofInt 64 (-1) ^^^ BitVec.ofInt 64 x).toNat:Int)=_
 have e1:BitVec.ofInt 64 (-1)=BitVec.allOnes 64:=by decide
 rw[e1,BitVec.allOnes_xor,BitVec.toNat_not,BitVec.toNat_ofInt,IntKind.wrap_i64]
 omega
theorem not_u64 (x:Int) (h1:0≤x) (h2:x < 18446744073709551616):bits .xor .u64 IntKind.u64.max x=18446744073709551615-x:=by
 show IntKind.u64.wrap ((BitVec.ofInt 64 IntKind.u64.max ^^^ BitVec.ofInt 64 x).toNat:Int)=_
 have e1:BitVec.ofInt 64 IntKind.u64.max=BitVec.allOnes 64:=by decide
 rw[e1,BitVec.allOnes_xor,BitVec.toNat_not,BitVec.toNat_ofInt,IntKind.wrap_u64]
 omega
theorem wrap64_range (x:Int):-9223372036854775808≤wrap64 x∧wrap64 x≤9223372036854775807:=by unfold wrap64;omega
theorem wv_neg (p:Int):(.agg #[.int .i64 (bits BinOp.xor IntKind.i64 (-1) (wrap64 (p / 18446744073709551616))),.int .u64 (bits BinOp.xor IntKind.u64 IntKind.u64.max (p % 18446744073709551616))]:Value)=wv (-p-1):=by
 rw[not_i64 _ (wrap64_range _).1 (wrap64_range _).2,not_u64 _ (by omega) (by omega)]
 have g1:-(wrap64 (p / 18446744073709551616))-1=wrap64 ((-p-1) / 18446744073709551616):=by unfold wrap64;omega
 have g2:18446744073709551615-p % 18446744073709551616=(-p-1) % 18446744073709551616:=by omega
 unfold wv;rw[g1,g2]
theorem wv_wide (n:Int) (h1:-9223372036854775808≤n) (h2:n≤9223372036854775807):(.agg #[.int .i64 (n / 9223372036854775808),.int .u64 (IntKind.u64.wrap n)]:Value)=wv n:=by
 have g1:n / 9223372036854775808=wrap64 (n / 18446744073709551616):=by unfold wrap64;omega
 rw[IntKind.wrap_u64]
 unfold wv;rw[g1]
theorem wv_one:(.agg #[.int .i64 0,.int .u64 1]:Value)=wv 1:=by
 have g1:wrap64 (1 / 18446744073709551616)=0:=by unfold wrap64;omega
 have g2:(1:Int) % 18446744073709551616=1:=by omega
 unfold wv;rw[g1,g2]
theorem wv_zero:(.agg #[.int .i64 0,.int .u64 0]:Value)=wv 0:=by
 have g1:wrap64 (0 / 18446744073709551616)=0:=by unfold wrap64;omega
 have g2:(0:Int) % 18446744073709551616=0:=by omega
 unfold wv;rw[g1,g2]
theorem wv_add_neg (p:Int):wv (-p-1+1)=.agg #[.int .i64 (wrap64 (-p / 18446744073709551616)),.int .u64 (-p % 18446744073709551616)]:=by
 rw[show -p-1+1=-p by omega];rfl
theorem wide_any (n:Int) (h1:-9223372036854775808≤n) (h2:n≤9223372036854775807) (w:World) :
  Calls Tryz.prog 83 #[.int .i64 n] w fun e w'=>e=.returned (wv n)∧Below w.heap.size w w':=by
 have K:=zN (wv_wide n h1 h2)
 go_enter Tryz.func83,Tryz.ntmps83
 go_wp2
 refine bodyPost_ret (v:=.agg #[.int .i64 (n / 9223372036854775808),.int .u64 (IntKind.u64.wrap n)]) ?_ rfl ⟨by rw[K.out],?_⟩
 ·simp[results,Tryz.results83,go_sem]
 ·exact (by repeat (first|(with_reducible first|assumption|exact zBr _ _|refine zBs ?_ (by first|omega|simp<;>omega) _|refine zBa ?_ (by first|omega|simp<;>omega) _|apply zBd)|assumption))
theorem add_any (p q:Int) (w:World) :
  Calls Tryz.prog 73 #[wv p,wv q] w fun e w'=>e=.returned (wv (p+q))∧Below w.heap.size w w':=by
 obtain⟨l1,hl1⟩:=Int.eq_ofNat_of_zero_le (show 0≤p % 18446744073709551616 by omega)
 obtain⟨l2,hl2⟩:=Int.eq_ofNat_of_zero_le (show 0≤q % 18446744073709551616 by omega)
 have K:=zN (wv_add _ _ l1 l2 p q rfl rfl hl1.symm hl2.symm)
 rw[show wv p=.agg #[.int .i64 (wrap64 (p / 18446744073709551616)),.int .u64 (l1:Int)] by rw[←hl1];rfl,
  show wv q=.agg #[.int .i64 (wrap64 (q / 18446744073709551616)),.int .u64 (l2:Int)] by rw[←hl2];rfl]
 generalize wv (p+q)=R at *
 generalize wrap64 (p / 18446744073709551616)=a at *
 generalize wrap64 (q / 18446744073709551616)=b at *
 clear hl1 hl2
 go_enter Tryz.func73,Tryz.ntmps73
 go_wp2_with (simp only[show ((0:Int))=((0:Nat):Int) from rfl,add64_any _ _ 0 (by omega)])
 refine bodyPost_ret (v:=.agg #[.int .i64 (wrap64 (wrap64 (a+b)+wrap64 (((l1:Int)+(l2:Int)) / 18446744073709551616))),.int .u64 (((l1:Int)+(l2:Int)) % 18446744073709551616)]) ?_ rfl ⟨by rw[K.out],?_⟩
 ·simp[results,Tryz.results73,go_sem]
 ·exact (by repeat (first|(with_reducible first|assumption|exact zBr _ _|refine zBs ?_ (by first|omega|simp<;>omega) _|refine zBa ?_ (by first|omega|simp<;>omega) _|apply zBd)|assumption))
theorem add_at (v u:Value) (p q:Int) (hv:v=wv p) (hu:u=wv q) (w:World) :
  Calls Tryz.prog 73 #[v,u] w fun e w'=>e=.returned (wv (p+q))∧Below w.heap.size w w':=by
 subst hv hu;exact add_any p q w
end Go.Proofs.YtojkamfabapcoaaGreatDoor
