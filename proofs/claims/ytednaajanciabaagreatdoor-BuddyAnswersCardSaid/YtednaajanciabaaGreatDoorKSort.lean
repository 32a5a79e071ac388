import Derived.Test.YtednaajanciabaaGreatDoorKCells
import Derived.Test.YtednaajanciabaaGreatDoorKCmp
import Derived.Test.YtednaajanciabaaGreatDoorLaidSort
import Derived.Maps.RangeWalk
import Derived.Lib.SliceRun
set_option maxRecDepth 100000
set_option maxHeartbeats 8000000
set_option linter.unusedSimpArgs false
set_option linter.unusedVariables false
namespace Go.Proofs.YtednaajanciabaaGreatDoor
open Go.RowKit Go.Sort Go.Shelf
abbrev I3:=Int × Int × Int
def enc3 (x:I3):List Value:=[.int .i64 x.1,.int .i64 x.2.1,.int .i64 x.2.2]
def cf3 (x y:I3):Int:=orL [sgn x.1 y.1,sgn x.2.1 y.2.1,sgn x.2.2 y.2.2]
def lt3 (x y:I3):Prop:=x.1 < y.1∨x.1=y.1∧(x.2.1 < y.2.1∨x.2.1=y.2.1∧x.2.2 < y.2.2)
instance (x y:I3):Decidable (lt3 x y):=by unfold lt3;infer_instance
theorem ltOf3_iff (x y:I3):ltOf cf3 x y=true↔lt3 x y:=by
 unfold ltOf cf3 lt3
 rw[decide_eq_true_eq]
 obtain⟨s0,h0⟩:∃ s,s=sgn x.1 y.1:=⟨_,rfl⟩
 rw[←h0]
 have g0:(x.1 < y.1∧s0=-1)∨(x.1=y.1∧s0=0)∨(y.1 < x.1∧s0=1):=by
  rw[h0];unfold sgn;(repeat' split)<;>omega
 obtain⟨s1,h1⟩:∃ s,s=sgn x.2.1 y.2.1:=⟨_,rfl⟩
 rw[←h1]
 have g1:(x.2.1 < y.2.1∧s1=-1)∨(x.2.1=y.2.1∧s1=0)∨(y.2.1 < x.2.1∧s1=1):=by
  rw[h1];unfold sgn;(repeat' split)<;>omega
 obtain⟨s2,h2⟩:∃ s,s=sgn x.2.2 y.2.2:=⟨_,rfl⟩
 rw[←h2]
 have g2:(x.2.2 < y.2.2∧s2=-1)∨(x.2.2=y.2.2∧s2=0)∨(y.2.2 < x.2.2∧s2=1):=by
  rw[h2];unfold sgn;(repeat' split)<;>omega
 clear h0 h1 h2
 rcases g0 with ⟨e0,rfl⟩|⟨e0,rfl⟩|⟨e0,rfl⟩<;>rcases g1 with ⟨e1,rfl⟩|⟨e1,rfl⟩|⟨e1,rfl⟩<;>rcases g2 with ⟨e2,rfl⟩|⟨e2,rfl⟩|⟨e2,rfl⟩<;>simp only[orL]<;>(constructor<;>intro h<;>first|omega|(simp at h;done)|(simp at h;omega)|(simp;done)|(simp;omega))
theorem ltOf3_not (x y:I3):ltOf cf3 x y=false↔¬ lt3 x y:=by rw[←ltOf3_iff,Bool.not_eq_true]
theorem swo3:SWO (ltOf cf3) where
 irrefl:=fun x=>(ltOf3_not x x).2 (by unfold lt3;omega)
 trans:=fun x y z h1 h2=>(ltOf3_iff _ _).2 (by have a:=(ltOf3_iff _ _).1 h1;have b:=(ltOf3_iff _ _).1 h2;unfold lt3 at *;omega)
 ntrans:=fun x y z h1 h2=>(ltOf3_not _ _).2 (by have a:=(ltOf3_not _ _).1 h1;have b:=(ltOf3_not _ _).1 h2;unfold lt3 at *;omega)
abbrev I2:=Int × Int
def enc2 (x:I2):List Value:=[.int .i64 x.1,.int .i64 x.2]
def cf2 (x y:I2):Int:=orL [sgn x.1 y.1,sgn x.2 y.2]
def lt2 (x y:I2):Prop:=x.1 < y.1∨x.1=y.1∧x.2 < y.2
instance (x y:I2):Decidable (lt2 x y):=by unfold lt2;infer_instance
theorem ltOf2_iff (x y:I2):ltOf cf2 x y=true↔lt2 x y:=by
 unfold ltOf cf2 lt2
 rw[decide_eq_true_eq]
 obtain⟨s0,h0⟩:∃ s,s=sgn x.1 y.1:=⟨_,rfl⟩
 rw[←h0]
 have g0:(x.1 < y.1∧s0=-1)∨(x.1=y.1∧s0=0)∨(y.1 < x.1∧s0=1):=by
  rw[h0];unfold sgn;(repeat' split)<;>omega
 obtain⟨s1,h1⟩:∃ s,s=sgn x.2 y.2:=⟨_,rfl⟩
 rw[←h1]
 have g1:(x.2 < y.2∧s1=-1)∨(x.2=y.2∧s1=0)∨(y.2 < x.2∧s1=1):=by
  rw[h1];unfold sgn;(repeat' split)<;>omega
 clear h0 h1
 rcases g0 with ⟨e0,rfl⟩|⟨e0,rfl⟩|⟨e0,rfl⟩<;>rcases g1 with ⟨e1,rfl⟩|⟨e1,rfl⟩|⟨e1,rfl⟩<;>simp only[orL]<;>(constructor<;>intro h<;>first|omega|(simp at h;done)|(simp at h;omega)|(simp;done)|(simp;omega))
theorem ltOf2_not (x y:I2):ltOf cf2 x y=false↔¬ lt2 x y:=by rw[←ltOf2_iff,Bool.not_eq_true]
theorem swo2:SWO (ltOf cf2) where
 irrefl:=fun x=>(ltOf2_not x x).2 (by unfold lt2;omega)
 trans:=fun x y z h1 h2=>(ltOf2_iff _ _).2 (by have a:=(ltOf2_iff _ _).1 h1;have b:=(ltOf2_iff _ _).1 h2;unfold lt2 at *;omega)
 ntrans:=fun x y z h1 h2=>(ltOf2_not _ _).2 (by have a:=(ltOf2_not _ _).1 h1;have b:=(ltOf2_not _ _).1 h2;unfold lt2 at *;omega)
theorem lessCell (x y:I3) (w:World):Calls Tryz.prog 86 #[.agg #[.int .i64 x.1,.int .i64 x.2.1,.int .i64 x.2.2],.agg #[.int .i64 y.1,.int .i64 y.2.1,.int .i64 y.2.2]] w fun e w'=>e=.returned (.int .i64 (cf3 x y))∧∃ q os',w'=grow (w.drewN q) os':=by
 obtain⟨x0,x1,x2⟩:=x
 obtain⟨y0,y1,y2⟩:=y
 dsimp only
 have HC:Hid (cf3 (x0,x1,x2) (y0,y1,y2)=orL [sgn x0 y0,sgn x1 y1,sgn x2 y2]):=zN rfl
 go_enter Tryz.func86,Tryz.ntmps86
 go_wp2
 refine RX.region RX.fL (fun w'=>w'.cell? ⟨w.heap.size,0,none⟩=some (.int .i64 x0)∧w'.cell? ⟨w.heap.size,1,none⟩=some (.int .i64 x1)∧w'.cell? ⟨w.heap.size,2,none⟩=some (.int .i64 x2)∧w'.cell? ⟨w.heap.size+1,0,none⟩=some (.int .i64 y0)∧w'.cell? ⟨w.heap.size+1,1,none⟩=some (.int .i64 y1)∧w'.cell? ⟨w.heap.size+1,2,none⟩=some (.int .i64 y2)) (by kernel_rfl) (by kernel_rfl) ((by simp[zO,zJ,zQ])) (fun OPS HO QR hQR=>?_)
 repeat (refine zeX (fun R hR=>?_);(first|refine zaX (by first|rfl|(rw[HO.out];rfl)) (by simp only[zA,zB,zC,zD];rfl) ?_|refine zbX (by first|rfl|(rw[HO.out];rfl)) rfl (by first|exact .inl rfl|exact .inr rfl) (by simp only[zE,zF,zG,zH];rfl) (by simp only[zA,zB,zC,zD];rfl) ?_|refine zcX (by first|rfl|(rw[HO.out];rfl)) rfl rfl (by simp only[zE,zF,zG,zH];rfl) (by simp only[zA,zB,zC,zD];rfl) ?_|(refine zdX (by first|rfl|(rw[HO.out];rfl)) rfl rfl rfl ?_;apply zEx;apply zEx;refine⟨fun w' hS K hK=>?_,?_,?_⟩;(focus (obtain⟨hS1,hS2,hS3,hS4,hS5,hS6⟩:=hS;go_wp2;exact hK _ _ (by simp only[zl,zG,zH];first|exact zf (by omega)|exact zg (by omega)|exact zh (by omega)|exact zi (by omega)|exact zj (by omega)|exact zk (by omega)|exact RX.bneB _|rfl) rfl));(focus (simp only[zA,zB,zC,zD];rfl))));refine hR _ _ ?_;clear hR R)
 refine zeX (fun R hR=>?_)
 refine zgX (by first|rfl|(rw[HO.out];rfl)) rfl (fun K hK=>?_)
 go_wp2_with (go_at_call 47;refine (cmp_int _ _ _).mono ?_;rintro e w' ⟨rfl,rfl⟩)
 refine⟨(by simp[zO,zJ,zQ]),hR _ _ ?_⟩;clear hR R
 repeat (refine zeX (fun R hR=>?_);(first|refine zaX (by first|rfl|(rw[HO.out];rfl)) (by simp only[zA,zB,zC,zD];rfl) ?_|refine zbX (by first|rfl|(rw[HO.out];rfl)) rfl (by first|exact .inl rfl|exact .inr rfl) (by simp only[zE,zF,zG,zH];rfl) (by simp only[zA,zB,zC,zD];rfl) ?_|refine zcX (by first|rfl|(rw[HO.out];rfl)) rfl rfl (by simp only[zE,zF,zG,zH];rfl) (by simp only[zA,zB,zC,zD];rfl) ?_|(refine zdX (by first|rfl|(rw[HO.out];rfl)) rfl rfl rfl ?_;apply zEx;apply zEx;refine⟨fun w' hS K hK=>?_,?_,?_⟩;(focus (obtain⟨hS1,hS2,hS3,hS4,hS5,hS6⟩:=hS;go_wp2;exact hK _ _ (by simp only[zl,zG,zH];first|exact zf (by omega)|exact zg (by omega)|exact zh (by omega)|exact zi (by omega)|exact zj (by omega)|exact zk (by omega)|exact RX.bneB _|rfl) rfl));(focus (simp only[zA,zB,zC,zD];rfl))));refine hR _ _ ?_;clear hR R)
 refine zeX (fun R hR=>?_)
 refine zgX (by first|rfl|(rw[HO.out];rfl)) rfl (fun K hK=>?_)
 go_wp2_with (go_at_call 47;refine (cmp_int _ _ _).mono ?_;rintro e w' ⟨rfl,rfl⟩)
 refine⟨(by simp[zO,zJ,zQ]),hR _ _ ?_⟩;clear hR R
 repeat (refine zeX (fun R hR=>?_);(first|refine zaX (by first|rfl|(rw[HO.out];rfl)) (by simp only[zA,zB,zC,zD];rfl) ?_|refine zbX (by first|rfl|(rw[HO.out];rfl)) rfl (by first|exact .inl rfl|exact .inr rfl) (by simp only[zE,zF,zG,zH];rfl) (by simp only[zA,zB,zC,zD];rfl) ?_|refine zcX (by first|rfl|(rw[HO.out];rfl)) rfl rfl (by simp only[zE,zF,zG,zH];rfl) (by simp only[zA,zB,zC,zD];rfl) ?_|(refine zdX (by first|rfl|(rw[HO.out];rfl)) rfl rfl rfl ?_;apply zEx;apply zEx;refine⟨fun w' hS K hK=>?_,?_,?_⟩;(focus (obtain⟨hS1,hS2,hS3,hS4,hS5,hS6⟩:=hS;go_wp2;exact hK _ _ (by simp only[zl,zG,zH];first|exact zf (by omega)|exact zg (by omega)|exact zh (by omega)|exact zi (by omega)|exact zj (by omega)|exact zk (by omega)|exact RX.bneB _|rfl) rfl));(focus (simp only[zA,zB,zC,zD];rfl))));refine hR _ _ ?_;clear hR R)
 refine zeX (fun R hR=>?_)
 refine zgX (by first|rfl|(rw[HO.out];rfl)) rfl (fun K hK=>?_)
 go_wp2_with (go_at_call 47;refine (cmp_int _ _ _).mono ?_;rintro e w' ⟨rfl,rfl⟩)
 refine⟨(by simp[zO,zJ,zQ]),hR _ _ ?_⟩;clear hR R
 repeat (refine zeX (fun R hR=>?_);(first|refine zaX (by first|rfl|(rw[HO.out];rfl)) (by simp only[zA,zB,zC,zD];rfl) ?_|refine zbX (by first|rfl|(rw[HO.out];rfl)) rfl (by first|exact .inl rfl|exact .inr rfl) (by simp only[zE,zF,zG,zH];rfl) (by simp only[zA,zB,zC,zD];rfl) ?_|refine zcX (by first|rfl|(rw[HO.out];rfl)) rfl rfl (by simp only[zE,zF,zG,zH];rfl) (by simp only[zA,zB,zC,zD];rfl) ?_|(refine zdX (by first|rfl|(rw[HO.out];rfl)) rfl rfl rfl ?_;apply zEx;apply zEx;refine⟨fun w' hS K hK=>?_,?_,?_⟩;(focus (obtain⟨hS1,hS2,hS3,hS4,hS5,hS6⟩:=hS;go_wp2;exact hK _ _ (by simp only[zl,zG,zH];first|exact zf (by omega)|exact zg (by omega)|exact zh (by omega)|exact zi (by omega)|exact zj (by omega)|exact zk (by omega)|exact RX.bneB _|rfl) rfl));(focus (simp only[zA,zB,zC,zD];rfl))));refine hR _ _ ?_;clear hR R)
 refine zeX (fun R hR=>?_)
 refine zgX (by first|rfl|(rw[HO.out];rfl)) rfl (fun K hK=>?_)
 go_wp2
 refine⟨(by simp[zO,zJ,zQ]),hR _ _ ?_⟩;clear hR R
 repeat (refine zeX (fun R hR=>?_);(first|refine zaX (by first|rfl|(rw[HO.out];rfl)) (by simp only[zA,zB,zC,zD];rfl) ?_|refine zbX (by first|rfl|(rw[HO.out];rfl)) rfl (by first|exact .inl rfl|exact .inr rfl) (by simp only[zE,zF,zG,zH];rfl) (by simp only[zA,zB,zC,zD];rfl) ?_|refine zcX (by first|rfl|(rw[HO.out];rfl)) rfl rfl (by simp only[zE,zF,zG,zH];rfl) (by simp only[zA,zB,zC,zD];rfl) ?_|(refine zdX (by first|rfl|(rw[HO.out];rfl)) rfl rfl rfl ?_;apply zEx;apply zEx;refine⟨fun w' hS K hK=>?_,?_,?_⟩;(focus (obtain⟨hS1,hS2,hS3,hS4,hS5,hS6⟩:=hS;go_wp2;exact hK _ _ (by simp only[zl,zG,zH];first|exact zf (by omega)|exact zg (by omega)|exact zh (by omega)|exact zi (by omega)|exact zj (by omega)|exact zk (by omega)|exact RX.bneB _|rfl) rfl));(focus (simp only[zA,zB,zC,zD];rfl))));refine hR _ _ ?_;clear hR R)
 refine zeX (fun R hR=>?_)
 refine zgX (by first|rfl|(rw[HO.out];rfl)) rfl (fun K hK=>?_)
 go_wp2_with fail
 refine (or_int _ _ _ [sgn x0 y0,sgn x1 y1,sgn x2 y2] _ rfl ?_ (by simp)).mono ?_
 ·intro j v hj
  match j,hj with
  |0,hj=>simp at hj;subst hj;exact (by simp[zO,zJ,zQ])
  |1,hj=>simp at hj;subst hj;exact (by simp[zO,zJ,zQ])
  |2,hj=>simp at hj;subst hj;exact (by simp[zO,zJ,zQ])
 rintro e w' ⟨rfl,rfl⟩
 rw[←HC.out]
 refine hK _ _ ⟨(by simp[zO,zJ,zQ]),hR _ _ ?_⟩;clear hK K hR R
 repeat (refine zeX (fun R hR=>?_);(first|refine zaX (by first|rfl|(rw[HO.out];rfl)) (by simp only[zA,zB,zC,zD];rfl) ?_|refine zbX (by first|rfl|(rw[HO.out];rfl)) rfl (by first|exact .inl rfl|exact .inr rfl) (by simp only[zE,zF,zG,zH];rfl) (by simp only[zA,zB,zC,zD];rfl) ?_|refine zcX (by first|rfl|(rw[HO.out];rfl)) rfl rfl (by simp only[zE,zF,zG,zH];rfl) (by simp only[zA,zB,zC,zD];rfl) ?_|(refine zdX (by first|rfl|(rw[HO.out];rfl)) rfl rfl rfl ?_;apply zEx;apply zEx;refine⟨fun w' hS K hK=>?_,?_,?_⟩;(focus (go_wp2;exact hK _ _ (by simp only[zl,zG,zH];first|exact zf (by omega)|exact zg (by omega)|exact zh (by omega)|exact zi (by omega)|exact zj (by omega)|exact zk (by omega)|exact RX.bneB _|rfl) rfl));(focus (simp only[zA,zB,zC,zD];rfl))));refine hR _ _ ?_;clear hR R)
 refine RX.wpL_nil (hQR _ _ ((by simp[zO,zJ,zQ])) ?_);clear hQR QR HO OPS
 go_wp2
 go_ret
 exact⟨rfl,1,_,by rw[alloc_eq_grow,alloc_eq_grow,alloc_eq_grow,grow_grow,grow_grow];rfl⟩
theorem lessEdge (x y:I2) (w:World):Calls Tryz.prog 88 #[.agg #[.int .i64 x.1,.int .i64 x.2],.agg #[.int .i64 y.1,.int .i64 y.2]] w fun e w'=>e=.returned (.int .i64 (cf2 x y))∧∃ q os',w'=grow (w.drewN q) os':=by
 obtain⟨x0,x1⟩:=x
 obtain⟨y0,y1⟩:=y
 dsimp only
 have HC:Hid (cf2 (x0,x1) (y0,y1)=orL [sgn x0 y0,sgn x1 y1]):=zN rfl
 go_enter Tryz.func88,Tryz.ntmps88
 go_wp2
 refine RX.region RX.fL (fun w'=>w'.cell? ⟨w.heap.size,0,none⟩=some (.int .i64 x0)∧w'.cell? ⟨w.heap.size,1,none⟩=some (.int .i64 x1)∧w'.cell? ⟨w.heap.size+1,0,none⟩=some (.int .i64 y0)∧w'.cell? ⟨w.heap.size+1,1,none⟩=some (.int .i64 y1)) (by kernel_rfl) (by kernel_rfl) ((by simp[zO,zJ,zQ])) (fun OPS HO QR hQR=>?_)
 repeat (refine zeX (fun R hR=>?_);(first|refine zaX (by first|rfl|(rw[HO.out];rfl)) (by simp only[zA,zB,zC,zD];rfl) ?_|refine zbX (by first|rfl|(rw[HO.out];rfl)) rfl (by first|exact .inl rfl|exact .inr rfl) (by simp only[zE,zF,zG,zH];rfl) (by simp only[zA,zB,zC,zD];rfl) ?_|refine zcX (by first|rfl|(rw[HO.out];rfl)) rfl rfl (by simp only[zE,zF,zG,zH];rfl) (by simp only[zA,zB,zC,zD];rfl) ?_|(refine zdX (by first|rfl|(rw[HO.out];rfl)) rfl rfl rfl ?_;apply zEx;apply zEx;refine⟨fun w' hS K hK=>?_,?_,?_⟩;(focus (obtain⟨hS1,hS2,hS3,hS4⟩:=hS;go_wp2;exact hK _ _ (by simp only[zl,zG,zH];first|exact zf (by omega)|exact zg (by omega)|exact zh (by omega)|exact zi (by omega)|exact zj (by omega)|exact zk (by omega)|exact RX.bneB _|rfl) rfl));(focus (simp only[zA,zB,zC,zD];rfl))));refine hR _ _ ?_;clear hR R)
 refine zeX (fun R hR=>?_)
 refine zgX (by first|rfl|(rw[HO.out];rfl)) rfl (fun K hK=>?_)
 go_wp2_with (go_at_call 47;refine (cmp_int _ _ _).mono ?_;rintro e w' ⟨rfl,rfl⟩)
 refine⟨(by simp[zO,zJ,zQ]),hR _ _ ?_⟩;clear hR R
 repeat (refine zeX (fun R hR=>?_);(first|refine zaX (by first|rfl|(rw[HO.out];rfl)) (by simp only[zA,zB,zC,zD];rfl) ?_|refine zbX (by first|rfl|(rw[HO.out];rfl)) rfl (by first|exact .inl rfl|exact .inr rfl) (by simp only[zE,zF,zG,zH];rfl) (by simp only[zA,zB,zC,zD];rfl) ?_|refine zcX (by first|rfl|(rw[HO.out];rfl)) rfl rfl (by simp only[zE,zF,zG,zH];rfl) (by simp only[zA,zB,zC,zD];rfl) ?_|(refine zdX (by first|rfl|(rw[HO.out];rfl)) rfl rfl rfl ?_;apply zEx;apply zEx;refine⟨fun w' hS K hK=>?_,?_,?_⟩;(focus (obtain⟨hS1,hS2,hS3,hS4⟩:=hS;go_wp2;exact hK _ _ (by simp only[zl,zG,zH];first|exact zf (by omega)|exact zg (by omega)|exact zh (by omega)|exact zi (by omega)|exact zj (by omega)|exact zk (by omega)|exact RX.bneB _|rfl) rfl));(focus (simp only[zA,zB,zC,zD];rfl))));refine hR _ _ ?_;clear hR R)
 refine zeX (fun R hR=>?_)
 refine zgX (by first|rfl|(rw[HO.out];rfl)) rfl (fun K hK=>?_)
 go_wp2_with (go_at_call 47;refine (cmp_int _ _ _).mono ?_;rintro e w' ⟨rfl,rfl⟩)
 refine⟨(by simp[zO,zJ,zQ]),hR _ _ ?_⟩;clear hR R
 repeat (refine zeX (fun R hR=>?_);(first|refine zaX (by first|rfl|(rw[HO.out];rfl)) (by simp only[zA,zB,zC,zD];rfl) ?_|refine zbX (by first|rfl|(rw[HO.out];rfl)) rfl (by first|exact .inl rfl|exact .inr rfl) (by simp only[zE,zF,zG,zH];rfl) (by simp only[zA,zB,zC,zD];rfl) ?_|refine zcX (by first|rfl|(rw[HO.out];rfl)) rfl rfl (by simp only[zE,zF,zG,zH];rfl) (by simp only[zA,zB,zC,zD];rfl) ?_|(refine zdX (by first|rfl|(rw[HO.out];rfl)) rfl rfl rfl ?_;apply zEx;apply zEx;refine⟨fun w' hS K hK=>?_,?_,?_⟩;(focus (obtain⟨hS1,hS2,hS3,hS4⟩:=hS;go_wp2;exact hK _ _ (by simp only[zl,zG,zH];first|exact zf (by omega)|exact zg (by omega)|exact zh (by omega)|exact zi (by omega)|exact zj (by omega)|exact zk (by omega)|exact RX.bneB _|rfl) rfl));(focus (simp only[zA,zB,zC,zD];rfl))));refine hR _ _ ?_;clear hR R)
 refine zeX (fun R hR=>?_)
 refine zgX (by first|rfl|(rw[HO.out];rfl)) rfl (fun K hK=>?_)
 go_wp2
 refine⟨(by simp[zO,zJ,zQ]),hR _ _ ?_⟩;clear hR R
 repeat (refine zeX (fun R hR=>?_);(first|refine zaX (by first|rfl|(rw[HO.out];rfl)) (by simp only[zA,zB,zC,zD];rfl) ?_|refine zbX (by first|rfl|(rw[HO.out];rfl)) rfl (by first|exact .inl rfl|exact .inr rfl) (by simp only[zE,zF,zG,zH];rfl) (by simp only[zA,zB,zC,zD];rfl) ?_|refine zcX (by first|rfl|(rw[HO.out];rfl)) rfl rfl (by simp only[zE,zF,zG,zH];rfl) (by simp only[zA,zB,zC,zD];rfl) ?_|(refine zdX (by first|rfl|(rw[HO.out];rfl)) rfl rfl rfl ?_;apply zEx;apply zEx;refine⟨fun w' hS K hK=>?_,?_,?_⟩;(focus (obtain⟨hS1,hS2,hS3,hS4⟩:=hS;go_wp2;exact hK _ _ (by simp only[zl,zG,zH];first|exact zf (by omega)|exact zg (by omega)|exact zh (by omega)|exact zi (by omega)|exact zj (by omega)|exact zk (by omega)|exact RX.bneB _|rfl) rfl));(focus (simp only[zA,zB,zC,zD];rfl))));refine hR _ _ ?_;clear hR R)
 refine zeX (fun R hR=>?_)
 refine zgX (by first|rfl|(rw[HO.out];rfl)) rfl (fun K hK=>?_)
 go_wp2_with fail
 refine (or_int _ _ _ [sgn x0 y0,sgn x1 y1] _ rfl ?_ (by simp)).mono ?_
 ·intro j v hj
  match j,hj with
  |0,hj=>simp at hj;subst hj;exact (by simp[zO,zJ,zQ])
  |1,hj=>simp at hj;subst hj;exact (by simp[zO,zJ,zQ])
 rintro e w' ⟨rfl,rfl⟩
 rw[←HC.out]
 refine hK _ _ ⟨(by simp[zO,zJ,zQ]),hR _ _ ?_⟩;clear hK K hR R
 repeat (refine zeX (fun R hR=>?_);(first|refine zaX (by first|rfl|(rw[HO.out];rfl)) (by simp only[zA,zB,zC,zD];rfl) ?_|refine zbX (by first|rfl|(rw[HO.out];rfl)) rfl (by first|exact .inl rfl|exact .inr rfl) (by simp only[zE,zF,zG,zH];rfl) (by simp only[zA,zB,zC,zD];rfl) ?_|refine zcX (by first|rfl|(rw[HO.out];rfl)) rfl rfl (by simp only[zE,zF,zG,zH];rfl) (by simp only[zA,zB,zC,zD];rfl) ?_|(refine zdX (by first|rfl|(rw[HO.out];rfl)) rfl rfl rfl ?_;apply zEx;apply zEx;refine⟨fun w' hS K hK=>?_,?_,?_⟩;(focus (go_wp2;exact hK _ _ (by simp only[zl,zG,zH];first|exact zf (by omega)|exact zg (by omega)|exact zh (by omega)|exact zi (by omega)|exact zj (by omega)|exact zk (by omega)|exact RX.bneB _|rfl) rfl));(focus (simp only[zA,zB,zC,zD];rfl))));refine hR _ _ ?_;clear hR R)
 refine RX.wpL_nil (hQR _ _ ((by simp[zO,zJ,zQ])) ?_);clear hQR QR HO OPS
 go_wp2
 go_ret
 exact⟨rfl,1,_,by rw[alloc_eq_grow,alloc_eq_grow,alloc_eq_grow,grow_grow,grow_grow];rfl⟩
theorem enters_lessCell:∀ args w,(callFunc 86 args).run Tryz.prog w=.ok (.enter 86 args) w:=enters_of Tryz.func86 (by kernel_rfl) rfl
theorem sortCell_any (w:World) (g:Nat) (d:List I3) (p:Option Addr) (cap:Nat) (hp:0 < d.length→p=some ⟨g,0,none⟩) (h:HoldsK enc3 3 w g 0 d.toArray) (hcap:d.length≤cap) (hcap':d.length≤1000000) :
  Calls Tryz.prog 85 #[.slice p d.length cap,.func (.func 86) #[] #[]] w fun e w'=>e=.returned (.tuple #[])∧w.grownBy w' (some g)∧∃ d':List I3,d'.Perm d∧d'.Pairwise (fun x y=>¬ lt3 y x)∧HoldsK enc3 3 w' g 0 d'.toArray:=by
 by_cases h0:0 < d.length
 ·obtain rfl:=hp h0
  have hblk:g < w.heap.size:=by
   have h1:=h 0 (by rw[size_flatK];simp;omega)
   exact zM w _ h1.1
  have hs:=AnyQ.slices_SortFunc Tryz.sortCell 3 Tryz.isAgg136 Tryz.sizeOf136 enc3 (fun _=>rfl) (fun x v hv=>by simp[enc3] at hv;rcases hv with rfl|rfl|rfl<;>rfl) cf3 swo3 86 #[] g 0 cap d.toArray w enters_lessCell (fun _ _ _ _ x y=>lessCell x y _) h hblk (by simp;omega)
  rw[show d.toArray.size=d.length by simp] at hs
  change Calls Tryz.prog 85 _ _ _ at hs
  refine hs.mono ?_
  rintro e w' ⟨rfl,d',n,os,hperm,hsort,rfl⟩
  refine⟨rfl,?_,d'.toList,?_,?_,?_⟩
  ·refine⟨rfl,rfl,rfl,size_sortWorldK_c _ _ _ _ _ _ _ _,fun k hk hne=>?_⟩
   have hne':g≠k:=fun e=>hne (by rw[e])
   show (w.heap.modify g _ ++ os)[k]?=w.heap[k]?
   rw[Array.getElem?_append_left (by simpa using hk),Array.getElem?_modify,if_neg hne']
  ·have h1:=hperm.1
   have h2:=hperm.2.2
   have h3:d'.extract 0 d.length=d':=by rw[show d.length=d'.size by simp[h1]];simp
   rw[h3] at h2
   simpa using h2
  ·have h1:=hperm.1
   rw[List.pairwise_iff_getElem]
   intro i j hi hj hij
   have hi':i < d'.size:=by simpa using hi
   have hj':j < d'.size:=by simpa using hj
   have h2:=hsort i j (Nat.zero_le _) hij (by rw[h1] at hj';simpa using hj')
   rw[ltOf3_not,getElem!_pos d' j hj',getElem!_pos d' i hi'] at h2
   simpa using h2
  ·have:=holdsK_sortWorldK enc3 3 w g 0 n d.toArray d' os hblk h (by simpa using hperm.1)
   simpa using this
 ·obtain rfl:d=[]:=List.eq_nil_of_length_eq_zero (by omega)
  refine (AnyF.slices_SortFunc_none Tryz.sortCell p cap _ w).mono ?_
  rintro e w' ⟨rfl,rfl⟩
  exact⟨rfl,World.grownBy.refl _ _,[],List.Perm.refl _,List.Pairwise.nil,h⟩
theorem enters_lessEdge:∀ args w,(callFunc 88 args).run Tryz.prog w=.ok (.enter 88 args) w:=enters_of Tryz.func88 (by kernel_rfl) rfl
theorem sortEdge_any (w:World) (g:Nat) (d:List I2) (p:Option Addr) (cap:Nat) (hp:0 < d.length→p=some ⟨g,0,none⟩) (h:HoldsK enc2 2 w g 0 d.toArray) (hcap:d.length≤cap) (hcap':d.length≤1000000) :
  Calls Tryz.prog 87 #[.slice p d.length cap,.func (.func 88) #[] #[]] w fun e w'=>e=.returned (.tuple #[])∧w.grownBy w' (some g)∧∃ d':List I2,d'.Perm d∧d'.Pairwise (fun x y=>¬ lt2 y x)∧HoldsK enc2 2 w' g 0 d'.toArray:=by
 by_cases h0:0 < d.length
 ·obtain rfl:=hp h0
  have hblk:g < w.heap.size:=by
   have h1:=h 0 (by rw[size_flatK];simp;omega)
   exact zM w _ h1.1
  have hs:=AnyQ.slices_SortFunc Tryz.sortEdge 2 Tryz.isAgg139 Tryz.sizeOf139 enc2 (fun _=>rfl) (fun x v hv=>by simp[enc2] at hv;rcases hv with rfl|rfl<;>rfl) cf2 swo2 88 #[] g 0 cap d.toArray w enters_lessEdge (fun _ _ _ _ x y=>lessEdge x y _) h hblk (by simp;omega)
  rw[show d.toArray.size=d.length by simp] at hs
  change Calls Tryz.prog 87 _ _ _ at hs
  refine hs.mono ?_
  rintro e w' ⟨rfl,d',n,os,hperm,hsort,rfl⟩
  refine⟨rfl,?_,d'.toList,?_,?_,?_⟩
  ·refine⟨rfl,rfl,rfl,size_sortWorldK_c _ _ _ _ _ _ _ _,fun k hk hne=>?_⟩
   have hne':g≠k:=fun e=>hne (by rw[e])
   show (w.heap.modify g _ ++ os)[k]?=w.heap[k]?
   rw[Array.getElem?_append_left (by simpa using hk),Array.getElem?_modify,if_neg hne']
  ·have h1:=hperm.1
   have h2:=hperm.2.2
   have h3:d'.extract 0 d.length=d':=by rw[show d.length=d'.size by simp[h1]];simp
   rw[h3] at h2
   simpa using h2
  ·have h1:=hperm.1
   rw[List.pairwise_iff_getElem]
   intro i j hi hj hij
   have hi':i < d'.size:=by simpa using hi
   have hj':j < d'.size:=by simpa using hj
   have h2:=hsort i j (Nat.zero_le _) hij (by rw[h1] at hj';simpa using hj')
   rw[ltOf2_not,getElem!_pos d' j hj',getElem!_pos d' i hi'] at h2
   simpa using h2
  ·have:=holdsK_sortWorldK enc2 2 w g 0 n d.toArray d' os hblk h (by simpa using hperm.1)
   simpa using this
 ·obtain rfl:d=[]:=List.eq_nil_of_length_eq_zero (by omega)
  refine (AnyF.slices_SortFunc_none Tryz.sortEdge p cap _ w).mono ?_
  rintro e w' ⟨rfl,rfl⟩
  exact⟨rfl,World.grownBy.refl _ _,[],List.Perm.refl _,List.Pairwise.nil,h⟩
structure PairsAt (w:World) (g:Nat) (d:List (Int × Int)):Prop where
 c0:∀ k (h:k < d.length),w.cell? ⟨g,k*2,none⟩=some (.int .i64 d[k].1)
 c1:∀ k (h:k < d.length),w.cell? ⟨g,k*2+1,none⟩=some (.int .i64 d[k].2)
 f0:∀ k (h:k < d.length),w.frozen? ⟨g,k*2,none⟩=false
 f1:∀ k (h:k < d.length),w.frozen? ⟨g,k*2+1,none⟩=false
theorem PairsAt.kept {w w':World} {g:Nat} {d:List (Int × Int)} (h:PairsAt w g d) (hg:w'.heap[g]?=w.heap[g]?):PairsAt w' g d where
 c0:=fun k hk=>(World.cell?_of_block hg).trans (h.c0 k hk)
 c1:=fun k hk=>(World.cell?_of_block hg).trans (h.c1 k hk)
 f0:=fun k hk=>(zFb hg).trans (h.f0 k hk)
 f1:=fun k hk=>(zFb hg).trans (h.f1 k hk)
theorem PairsAt.grown {w w':World} {g:Nat} {d:List (Int × Int)} (h:PairsAt w g d) (hb:w.grownBy w' none):PairsAt w' g d:=by
 by_cases h0:0 < d.length
 ·exact h.kept (hb.block _ (zM w _ (h.c0 0 h0)) (by simp))
 ·exact⟨fun k hk=>by omega,fun k hk=>by omega,fun k hk=>by omega,fun k hk=>by omega⟩
theorem run_clear2 {P:Program} (w:World) (t e ty:TypeId) (a b:Value) (ht:P.underlying t=some (.slice e)) (hv:∀ w,(zeroValue e).run P w=.ok (.agg #[a,b]) w) (hz:(Value.agg #[a,b]).cells=#[a,b]) (h1:a.oneCell'=true) (h2:b.oneCell'=true) (g o n c:Nat) (hn:0 < n)
  (hc:∀ j,j < n*2→(w.cell? ⟨g,o+j,none⟩).isSome=true) (hf:∀ j,j < n*2→w.frozen? ⟨g,o+j,none⟩=false) :
  ∃ zs:List Value,(Builtin.clear_ #[t] ty #[.slice (some ⟨g,o,none⟩) n c]).run P w=.ok (.tuple #[]) (w.setCells g o zs):=by
 refine⟨(Builtin.zeroCells #[a,b] n).toList,?_⟩
 have hlen:(Builtin.zeroCells #[a,b] n).toList.length=n*2:=by simp[Builtin.zeroCells]
 have hmem:∀ v∈(Builtin.zeroCells #[a,b] n).toList,v.oneCell'=true:=by
  intro v hv'
  simp only[Builtin.zeroCells] at hv'
  simp at hv'
  obtain⟨j,hj,rfl⟩:=hv'
  rcases Nat.mod_two_eq_zero_or_one j with h|h<;>simp[h,h1,h2]
 have hst:=run_storeCells_cells (P:=P) g o (Builtin.zeroCells #[a,b] n).toList 0 w (by simpa[hlen] using hc) (by simpa[hlen] using hf) hmem
 simp only[Nat.add_zero] at hst
 obtain⟨m,rfl⟩:∃ m,n=m+1:=⟨n-1,by omega⟩
 simp[Builtin.clear_,run_underlying ht,hv,hz,hst]
theorem PairsAt.set2 {w:World} {g:Nat} {e:List (Int × Int)} (h:PairsAt w g e) (i:Nat) (x:Int × Int):PairsAt ((w.setCell ⟨g,i*2,none⟩ (.int .i64 x.1)).setCell ⟨g,i*2+1,none⟩ (.int .i64 x.2)) g (e.set i x) where
 c0:=fun k hk=>by
  have hk':k < e.length:=by simpa using hk
  rw[zK _ _ _ _ (by simp<;>omega)]
  by_cases hki:k=i
  ·subst hki
   rw[zL _ _ _ (by rw[h.c0 k hk'];rfl)];simp
  ·rw[zK _ _ _ _ (by simp<;>omega),h.c0 k hk',List.getElem_set_ne (Ne.symm hki)]
 c1:=fun k hk=>by
  have hk':k < e.length:=by simpa using hk
  by_cases hki:k=i
  ·subst hki
   rw[zL _ _ _ (by rw[zK _ _ _ _ (by simp),h.c1 k hk'];rfl)];simp
  ·rw[zK _ _ _ _ (by simp<;>omega),zK _ _ _ _ (by simp<;>omega),h.c1 k hk',List.getElem_set_ne (Ne.symm hki)]
 f0:=fun k hk=>by rw[World.frozen?_setCell,World.frozen?_setCell];exact h.f0 k (by simpa using hk)
 f1:=fun k hk=>by rw[World.frozen?_setCell,World.frozen?_setCell];exact h.f1 k (by simpa using hk)
theorem PairsAt.front {w:World} {g:Nat} {e:List (Int × Int)} (h:PairsAt w g e) (i:Nat) (zs:List Value):PairsAt (w.setCells g (i*2) zs) g (e.take i) where
 c0:=fun k hk=>by
  have hk':k < i∧k < e.length:=by rw[List.length_take,Nat.lt_min] at hk;exact hk
  rw[World.cell?_setCells_out _ _ _ _ _ (fun _ _=>Or.inl (by show k*2 < i*2;omega)),h.c0 k hk'.2];simp
 c1:=fun k hk=>by
  have hk':k < i∧k < e.length:=by rw[List.length_take,Nat.lt_min] at hk;exact hk
  rw[World.cell?_setCells_out _ _ _ _ _ (fun _ _=>Or.inl (by show k*2+1 < i*2;omega)),h.c1 k hk'.2];simp
 f0:=fun k hk=>by
  have hk':k < i∧k < e.length:=by rw[List.length_take,Nat.lt_min] at hk;exact hk
  rw[World.frozen?_setCells];exact h.f0 k hk'.2
 f1:=fun k hk=>by
  have hk':k < i∧k < e.length:=by rw[List.length_take,Nat.lt_min] at hk;exact hk
  rw[World.frozen?_setCells];exact h.f1 k hk'.2
theorem grownBy_setCell (w:World) (g k:Nat) (v:Value):w.grownBy (w.setCell ⟨g,k,none⟩ v) (some g):=
 ⟨by simp[World.setCell],by simp[World.setCell],by simp[World.setCell],by simp[World.setCell],fun j _ hj=>Below.heap_setCell _ _ _ j (fun e=>hj (by rw[e]))⟩
theorem grownBy_setCells (g:Nat):∀ (vs:List Value) (o:Nat) (w:World),w.grownBy (w.setCells g o vs) (some g)
 |[],o,w=>World.grownBy.refl _ _
 |v :: vs,o,w=>(grownBy_setCell w g o v).trans (grownBy_setCells g vs (o+1) _)
theorem pairs_holds {w:World} {g:Nat} {d:Array (Int × Int)} (h:HoldsK enc2 2 w g 0 d):PairsAt w g d.toList:=by
 have key:∀ k (hk:k < d.toList.length),(w.cell? ⟨g,k*2,none⟩=some (.int .i64 d.toList[k].1)∧w.frozen? ⟨g,k*2,none⟩=false)∧(w.cell? ⟨g,k*2+1,none⟩=some (.int .i64 d.toList[k].2)∧w.frozen? ⟨g,k*2+1,none⟩=false):=by
  intro k hk
  have hk':k < d.size:=by simpa using hk
  have e:∀ j,j / 2=k→d[j / 2]! = d.toList[k]:=fun j hj=>by rw[hj,getElem!_pos d k hk'];simp
  have h0:=h (k*2) (by rw[size_flatK];omega)
  have h1:=h (k*2+1) (by rw[size_flatK];omega)
  rw[get_flatK _ _ _ _ (by omega),e _ (by omega),show k*2 % 2=0 by omega,Nat.zero_add] at h0
  rw[get_flatK _ _ _ _ (by omega),e _ (by omega),show (k*2+1) % 2=1 by omega,Nat.zero_add] at h1
  exact⟨h0,h1⟩
 exact⟨fun k hk=>(key k hk).1.1,fun k hk=>(key k hk).2.1,fun k hk=>(key k hk).1.2,fun k hk=>(key k hk).2.2⟩
def newAt (d:List I2) (j:Nat):Bool:=decide (j=0∨d[j]?≠d[j-1]?)
def comp (d:List I2) (m:Nat):List I2:=((List.range m).filter (newAt d)).map (fun j=>d.getD j (0,0))
theorem comp_yes {d:List I2} {m:Nat} (hm:m < d.length) (h:newAt d m=true):comp d (m+1)=comp d m ++ [d[m]]:=by
 unfold comp
 rw[List.range_succ,List.filter_append,List.map_append]
 simp[h,hm]
theorem comp_no {d:List I2} {m:Nat} (h:newAt d m=false):comp d (m+1)=comp d m:=by
 unfold comp
 rw[List.range_succ,List.filter_append,List.map_append]
 simp[h]
theorem comp_all {d:List I2}:∀ {m:Nat},m≤d.length→(∀ j,j < m→newAt d j=true)→comp d m=d.take m
 |0,_,_=>by simp[comp]
 |m+1,hm,h=>by
  rw[comp_yes hm (h m (Nat.lt_succ_self m)),comp_all (Nat.le_of_succ_le hm) (fun j hj=>h j (Nat.lt_succ_of_lt hj)),List.take_succ_eq_append_getElem hm]
theorem comp_len (d:List I2) (m:Nat):(comp d m).length≤m:=by
 unfold comp
 rw[List.length_map]
 exact Nat.le_trans (List.length_filter_le _ _) (by simp)
structure Cst (d e:List I2) (i m:Nat):Prop where
 len:e.length=d.length
 lt:i < m
 le:m≤d.length
 head:e.take i=comp d m
 tail:e.drop (m-1)=d.drop (m-1)
theorem Cst.get {d e:List I2} {i m:Nat} (h:Cst d e i m) (j:Nat) (hj:m-1≤j) (hd:j < d.length):e[j]'(by rw[h.len];exact hd)=d[j]:=by
 have h1:=congrArg (fun l=>l[j-(m-1)]?) h.tail
 simp only[List.getElem?_drop] at h1
 rw[show m-1+(j-(m-1))=j by omega,List.getElem?_eq_getElem (by rw[h.len];exact hd),List.getElem?_eq_getElem hd] at h1
 injection h1
theorem Cst.skip {d e:List I2} {i m:Nat} (h:Cst d e i m) (hm:m < d.length) (h1:newAt d m=false):Cst d e i (m+1) where
 len:=h.len
 lt:=by have:=h.lt;omega
 le:=hm
 head:=by rw[comp_no h1];exact h.head
 tail:=by
  have:=congrArg (List.drop 1) h.tail
  rw[List.drop_drop,List.drop_drop,show m-1+1=m by have:=h.lt;omega] at this
  exact this
theorem Cst.keep {d e:List I2} {i m:Nat} (h:Cst d e i m) (hm:m < d.length) (h1:newAt d m=true):Cst d (e.set i d[m]) (i+1) (m+1) where
 len:=by rw[List.length_set,h.len]
 lt:=by have:=h.lt;omega
 le:=hm
 head:=by
  have hi:i < e.length:=by rw[h.len];have:=h.lt;omega
  rw[comp_yes hm h1,←h.head,List.take_succ_eq_append_getElem (by rw[List.length_set];exact hi),List.getElem_set_self,List.take_set_of_le (Nat.le_refl _)]
 tail:=by
  have:=h.lt
  rw[show m+1-1=m by omega,List.drop_set_of_lt (by omega)]
  have:=congrArg (List.drop 1) h.tail
  rw[List.drop_drop,List.drop_drop,show m-1+1=m by omega] at this
  exact this
theorem Cst.start {d:List I2} {k:Nat} (hk:k < d.length) (h0:1≤k) (h1:newAt d k=false) (h2:∀ j,j < k→newAt d j=true):Cst d d k (k+1) where
 len:=rfl
 lt:=Nat.lt_succ_self k
 le:=hk
 head:=by rw[comp_no h1,comp_all (by omega) h2]
 tail:=rfl
theorem grown_drew {w w':World} {r:Option Nat} (h:w.grownBy w' r):w.grownBy w'.drew r:=⟨h.os,h.tape,h.output,h.size,h.block⟩
theorem newAt_false {d:List I2} {j:Nat} (h0:1≤j) (hj:j < d.length) (h:d[j]=d[j-1]):newAt d j=false:=by
 unfold newAt
 rw[List.getElem?_eq_getElem hj,List.getElem?_eq_getElem (show j-1 < d.length by omega),h]
 simp;omega
theorem newAt_true {d:List I2} {j:Nat} (hj:j < d.length) (h:d[j]≠d[j-1]):newAt d j=true:=by
 unfold newAt
 rw[List.getElem?_eq_getElem hj,List.getElem?_eq_getElem (show j-1 < d.length by omega)]
 simp[h]
theorem compact_any (w:World) (g:Nat) (d:List I2) (p:Option Addr) (cap:Nat) (hp:0 < d.length→p=some ⟨g,0,none⟩) (h:PairsAt w g d) (hcap:d.length≤cap) (hcap':d.length≤1000000) :
  Calls Tryz.prog 89 #[.slice p d.length cap] w fun e w'=>w.grownBy w' (some g)∧e=.returned (.slice p (comp d d.length).length cap)∧PairsAt w' g (comp d d.length):=by
 by_cases hs:d.length < 2
 ·have hall:comp d d.length=d:=by
   rw[comp_all (Nat.le_refl _) (fun j hj=>by (obtain rfl:j=0:=(by omega));simp[newAt]),List.take_length]
  have HA:=zN hall
  clear hall
  go_enter Tryz.func89,Tryz.ntmps89
  go_wp2
  go_ret
  rw[HA.out]
  exact⟨World.grownBy.refl _ _,rfl,h⟩
 ·obtain rfl:=hp (by omega)
  clear hp
  have hd2:decide ((d.length:Int) < 2)=false:=zDf (by omega)
  go_enter Tryz.func89,Tryz.ntmps89
  go_wp2
  go_loopw [3] (fun i wr=>∃ k:Nat,1≤k∧k≤d.length∧i=.int .i64 k∧Hid (∀ j,j < k→newAt d j=true)∧w.grownBy wr none) (fun i _=>d.length-(intOf i).toNat)
  case atStart=>exact⟨1,by omega,by omega,rfl,zN fun j hj=>by (obtain rfl:j=0:=(by omega));simp[newAt],World.grownBy.refl _ _⟩
  case round=>
   obtain⟨k,hk1,hk,rfl,HN,hb⟩:=hrel
   have hP:=h.grown hb
   by_cases hlt:k < d.length
   ·have hkm:k-1 < d.length:=by omega
    have c0:=hP.c0 k hlt
    have c1:=hP.c1 k hlt
    have b0:=hP.c0 (k-1) hkm
    have b1:=hP.c1 (k-1) hkm
    obtain⟨x,hx⟩:∃ x,x=d[k]:=⟨_,rfl⟩
    obtain⟨y,hy⟩:∃ y,y=d[k-1]:=⟨_,rfl⟩
    rw[←hx] at c0 c1
    rw[←hy] at b0 b1
    have HXY:=zN (And.intro hx hy)
    clear hx hy
    obtain⟨x0,x1⟩:=x
    obtain⟨y0,y1⟩:=y
    dsimp only at c0 c1 b0 b1
    have HB:=zN hb
    have HPW:=zN hP
    clear hP hb
    by_cases h0:x0=y0
    ·subst h0
     by_cases h1:x1=y1
     ·subst h1
      have HF:Hid (newAt d k=false):=zN (newAt_false hk1 hlt (HXY.out.1.symm.trans HXY.out.2))
      go_wp2
      refine RX.region RX.fN (fun w'=>w'=_) (by kernel_rfl) (by kernel_rfl) rfl (fun OPS HO QR hQR=>?_)
      repeat (refine zeX (fun R hR=>?_);(first|refine zaX (by first|rfl|(rw[HO.out];rfl)) (by simp only[zA,zB,zC,zD];rfl) ?_|refine zbX (by first|rfl|(rw[HO.out];rfl)) rfl (by first|exact .inl rfl|exact .inr rfl) (by simp only[zE,zF,zG,zH];rfl) (by simp only[zA,zB,zC,zD];rfl) ?_|refine zcX (by first|rfl|(rw[HO.out];rfl)) rfl rfl (by simp only[zE,zF,zG,zH];rfl) (by simp only[zA,zB,zC,zD];rfl) ?_|(refine zdX (by first|rfl|(rw[HO.out];rfl)) rfl rfl rfl ?_;apply zEx;apply zEx;refine⟨fun w' hS K hK=>?_,?_,?_⟩;(focus (subst hS;go_wp2;exact hK _ _ (by simp only[zl,zG,zH];first|exact zf (by omega)|exact zg (by omega)|exact zh (by omega)|exact zi (by omega)|exact zj (by omega)|exact zk (by omega)|exact RX.bneB _|rfl) rfl));(focus (simp only[zA,zB,zC,zD];rfl))));refine hR _ _ ?_;clear hR R)
      refine RX.wpL_nil (hQR _ _ rfl ?_);clear hQR QR HO OPS
      go_wp2
      have hPd:PairsAt wr.drew g d:=HPW.out.kept rfl
      have hBd:w.grownBy wr.drew (some g):=(grown_drew HB.out).but _
      have HS0:Hid (Cst d d k (k+1)):=zN (Cst.start hlt hk1 HF.out HN.out)
      clear c0 c1 b0 b1 HF HXY HB HPW HN
      have hdt:decide ((d.length:Int) < 2)=false:=hd2
      go_loopw [3,5] (fun a b wr2=>∃ (i s:Nat) (e:List I2),a=.int .i64 (i:Int)∧b=.int .i64 (s:Int)∧1≤s∧Hid (Cst d e i (k+s))∧PairsAt wr2 g e∧w.grownBy wr2 (some g)) (fun _ b _=>d.length-(intOf b).toNat)
      case atStart=>exact⟨k,1,d,rfl,rfl,by omega,HS0,hPd,hBd⟩
      case round=>
       clear hPd hBd HS0
       obtain⟨i,s,e,rfl,rfl,hs1,HS,hP,hb⟩:=hrel
       have hle:=HS.out.le
       have hil:=HS.out.lt
       have hel:=HS.out.len
       by_cases hlt2:k+s < d.length
       ·have c0:=hP.c0 (k+s) (by omega)
        have c1:=hP.c1 (k+s) (by omega)
        have b0:=hP.c0 (k+s-1) (by omega)
        have b1:=hP.c1 (k+s-1) (by omega)
        rw[HS.out.get (k+s) (by omega) hlt2,show (k+s)*2=k*2+s*2 by omega] at c0 c1
        rw[HS.out.get (k+s-1) (by omega) (by omega),show (k+s-1)*2=k*2+(s-1)*2 by omega] at b0 b1
        obtain⟨u,hu⟩:∃ u,u=d[k+s]:=⟨_,rfl⟩
        obtain⟨v,hv⟩:∃ v,v=d[k+s-1]:=⟨_,rfl⟩
        rw[←hu] at c0 c1
        rw[←hv] at b0 b1
        have HUV:=zN (And.intro hu hv)
        clear hu hv
        obtain⟨u0,u1⟩:=u
        obtain⟨v0,v1⟩:=v
        dsimp only at c0 c1 b0 b1
        have d0:=hP.c0 i (by omega)
        have d1:=hP.c1 i (by omega)
        have g0:=hP.f0 i (by omega)
        have g1:=hP.f1 i (by omega)
        have HB:=zN hb
        have HPW:=zN hP
        clear hP hb
        by_cases e0:u0=v0
        ·subst e0
         by_cases e1:u1=v1
         ·subst e1
          have HF:Hid (newAt d (k+s)=false):=zN (newAt_false (by omega) hlt2 (HUV.out.1.symm.trans HUV.out.2))
          clear d0 d1 g0 g1
          go_wp2
          refine RX.region RX.fN (fun w'=>w'=_) (by kernel_rfl) (by kernel_rfl) rfl (fun OPS HO QR hQR=>?_)
          repeat (refine zeX (fun R hR=>?_);(first|refine zaX (by first|rfl|(rw[HO.out];rfl)) (by simp only[zA,zB,zC,zD];rfl) ?_|refine zbX (by first|rfl|(rw[HO.out];rfl)) rfl (by first|exact .inl rfl|exact .inr rfl) (by simp only[zE,zF,zG,zH];rfl) (by simp only[zA,zB,zC,zD];rfl) ?_|refine zcX (by first|rfl|(rw[HO.out];rfl)) rfl rfl (by simp only[zE,zF,zG,zH];rfl) (by simp only[zA,zB,zC,zD];rfl) ?_|(refine zdX (by first|rfl|(rw[HO.out];rfl)) rfl rfl rfl ?_;apply zEx;apply zEx;refine⟨fun w' hS K hK=>?_,?_,?_⟩;(focus (subst hS;go_wp2;exact hK _ _ (by simp only[zl,zG,zH];first|exact zf (by omega)|exact zg (by omega)|exact zh (by omega)|exact zi (by omega)|exact zj (by omega)|exact zk (by omega)|exact RX.bneB _|rfl) rfl));(focus (simp only[zA,zB,zC,zD];rfl))));refine hR _ _ ?_;clear hR R)
          refine RX.wpL_nil (hQR _ _ rfl ?_);clear hQR QR HO OPS
          go_wp2
          go_roundw
          case rel=>exact⟨i,s+1,e,rfl,by go_num,by omega,zN (HS.out.skip hlt2 HF.out),HPW.out.kept rfl,grown_drew HB.out⟩
          case measure=>simp[intOf];omega
         ·have HF:Hid (newAt d (k+s)=true):=zN (newAt_true hlt2 (by rw[←HUV.out.1,←HUV.out.2];simp[e1]))
          have DD:=zN (And.intro d0 (And.intro d1 (And.intro g0 g1)))
          clear d0 d1 g0 g1
          go_wp2
          refine RX.region RX.fN (fun w'=>w'=_) (by kernel_rfl) (by kernel_rfl) rfl (fun OPS HO QR hQR=>?_)
          repeat (refine zeX (fun R hR=>?_);(first|refine zaX (by first|rfl|(rw[HO.out];rfl)) (by simp only[zA,zB,zC,zD];rfl) ?_|refine zbX (by first|rfl|(rw[HO.out];rfl)) rfl (by first|exact .inl rfl|exact .inr rfl) (by simp only[zE,zF,zG,zH];rfl) (by simp only[zA,zB,zC,zD];rfl) ?_|refine zcX (by first|rfl|(rw[HO.out];rfl)) rfl rfl (by simp only[zE,zF,zG,zH];rfl) (by simp only[zA,zB,zC,zD];rfl) ?_|(refine zdX (by first|rfl|(rw[HO.out];rfl)) rfl rfl rfl ?_;apply zEx;apply zEx;refine⟨fun w' hS K hK=>?_,?_,?_⟩;(focus (subst hS;go_wp2;exact hK _ _ (by simp only[zl,zG,zH];first|exact zf (by omega)|exact zg (by omega)|exact zh (by omega)|exact zi (by omega)|exact zj (by omega)|exact zk (by omega)|exact RX.bneB _|rfl) rfl));(focus (simp only[zA,zB,zC,zD];rfl))));refine hR _ _ ?_;clear hR R)
          refine RX.wpL_nil (hQR _ _ rfl ?_);clear hQR QR HO OPS
          obtain⟨d0,d1,g0,g1⟩:=DD.out
          have hPd:PairsAt wr.drew g e:=HPW.out.kept rfl
          have c0':wr.drew.cell? ⟨g,k*2+s*2,none⟩=_:=c0
          have c1':wr.drew.cell? ⟨g,k*2+s*2+1,none⟩=_:=c1
          have d0':=hPd.c0 i (by omega)
          have d1':=hPd.c1 i (by omega)
          have g0':=hPd.f0 i (by omega)
          have g1':=hPd.f1 i (by omega)
          have HPD:=zN hPd
          obtain⟨z,hz⟩:∃ z,z=e[i]'(by omega):=⟨_,rfl⟩
          rw[←hz] at d0' d1' d0 d1
          clear hPd hz c0 c1 b0 b1
          go_wp2
          go_roundw
          case rel=>exact⟨i+1,s+1,e.set i d[k+s],by go_num,by go_num,by omega,zN (HS.out.keep hlt2 HF.out),by rw[←HUV.out.1];exact HPD.out.set2 i (u0,u1),(grown_drew HB.out).trans ((grownBy_setCell _ _ _ _).trans (grownBy_setCell _ _ _ _))⟩
          case measure=>simp[intOf];omega
        ·have HF:Hid (newAt d (k+s)=true):=zN (newAt_true hlt2 (by rw[←HUV.out.1,←HUV.out.2];simp[e0]))
         have DD:=zN (And.intro d0 (And.intro d1 (And.intro g0 g1)))
         clear d0 d1 g0 g1
         go_wp2
         refine RX.region RX.fN (fun w'=>w'=_) (by kernel_rfl) (by kernel_rfl) rfl (fun OPS HO QR hQR=>?_)
         repeat (refine zeX (fun R hR=>?_);(first|refine zaX (by first|rfl|(rw[HO.out];rfl)) (by simp only[zA,zB,zC,zD];rfl) ?_|refine zbX (by first|rfl|(rw[HO.out];rfl)) rfl (by first|exact .inl rfl|exact .inr rfl) (by simp only[zE,zF,zG,zH];rfl) (by simp only[zA,zB,zC,zD];rfl) ?_|refine zcX (by first|rfl|(rw[HO.out];rfl)) rfl rfl (by simp only[zE,zF,zG,zH];rfl) (by simp only[zA,zB,zC,zD];rfl) ?_|(refine zdX (by first|rfl|(rw[HO.out];rfl)) rfl rfl rfl ?_;apply zEx;apply zEx;refine⟨fun w' hS K hK=>?_,?_,?_⟩;(focus (subst hS;go_wp2;exact hK _ _ (by simp only[zl,zG,zH];first|exact zf (by omega)|exact zg (by omega)|exact zh (by omega)|exact zi (by omega)|exact zj (by omega)|exact zk (by omega)|exact RX.bneB _|rfl) rfl));(focus (simp only[zA,zB,zC,zD];rfl))));refine hR _ _ ?_;clear hR R)
         refine RX.wpL_nil (hQR _ _ rfl ?_);clear hQR QR HO OPS
         obtain⟨d0,d1,g0,g1⟩:=DD.out
         have hPd:PairsAt wr.drew g e:=HPW.out.kept rfl
         have c0':wr.drew.cell? ⟨g,k*2+s*2,none⟩=_:=c0
         have c1':wr.drew.cell? ⟨g,k*2+s*2+1,none⟩=_:=c1
         have d0':=hPd.c0 i (by omega)
         have d1':=hPd.c1 i (by omega)
         have g0':=hPd.f0 i (by omega)
         have g1':=hPd.f1 i (by omega)
         have HPD:=zN hPd
         obtain⟨z,hz⟩:∃ z,z=e[i]'(by omega):=⟨_,rfl⟩
         rw[←hz] at d0' d1' d0 d1
         clear hPd hz c0 c1 b0 b1
         go_wp2
         go_roundw
         case rel=>exact⟨i+1,s+1,e.set i d[k+s],by go_num,by go_num,by omega,zN (HS.out.keep hlt2 HF.out),by rw[←HUV.out.1];exact HPD.out.set2 i (u0,u1),(grown_drew HB.out).trans ((grownBy_setCell _ _ _ _).trans (grownBy_setCell _ _ _ _))⟩
         case measure=>simp[intOf];omega
       ·have hend:k+s=d.length:=by omega
        have hcl:∀ ty,∃ zs,(Builtin.clear_ #[112] ty #[.slice (some ⟨g,i*2,none⟩) (d.length-i) (cap-i)]).run Tryz.prog wr=.ok (.tuple #[]) (wr.setCells g (i*2) zs):=fun ty=>
         run_clear2 wr _ _ ty (.int .i64 0) (.int .i64 0) Tryz.underlying112 Tryz.zeroValue139 rfl rfl rfl g (i*2) _ _ (by omega)
          (fun t ht=>by
           rcases Nat.mod_two_eq_zero_or_one t with h2|h2
           ·rw[show i*2+t=(i+t / 2)*2 by omega,hP.c0 (i+t / 2) (by omega)];rfl
           ·rw[show i*2+t=(i+t / 2)*2+1 by omega,hP.c1 (i+t / 2) (by omega)];rfl)
          (fun t ht=>by
           rcases Nat.mod_two_eq_zero_or_one t with h2|h2
           ·rw[show i*2+t=(i+t / 2)*2 by omega,hP.f0 (i+t / 2) (by omega)]
           ·rw[show i*2+t=(i+t / 2)*2+1 by omega,hP.f1 (i+t / 2) (by omega)])
        obtain⟨zs,hcl⟩:=hcl 0
        have HH:Hid (e.take i=comp d d.length):=zN (by rw[HS.out.head,hend])
        have HP2:=zN (hP.front i zs)
        have HB2:=zN (hb.trans (grownBy_setCells g zs (i*2) wr))
        have HI:Hid ((comp d d.length).length=i):=zN (by rw[←HH.out,List.length_take];omega)
        clear hP hb HS hel
        go_wp2
        go_ret
        rw[←HH.out] at HI ⊢
        rw[HI.out]
        exact⟨HB2.out,rfl,HP2.out⟩
     ·have HF:Hid (newAt d k=true):=zN (newAt_true hlt (by rw[←HXY.out.1,←HXY.out.2];simp[h1]))
      go_wp2
      refine RX.region RX.fN (fun w'=>w'=_) (by kernel_rfl) (by kernel_rfl) rfl (fun OPS HO QR hQR=>?_)
      repeat (refine zeX (fun R hR=>?_);(first|refine zaX (by first|rfl|(rw[HO.out];rfl)) (by simp only[zA,zB,zC,zD];rfl) ?_|refine zbX (by first|rfl|(rw[HO.out];rfl)) rfl (by first|exact .inl rfl|exact .inr rfl) (by simp only[zE,zF,zG,zH];rfl) (by simp only[zA,zB,zC,zD];rfl) ?_|refine zcX (by first|rfl|(rw[HO.out];rfl)) rfl rfl (by simp only[zE,zF,zG,zH];rfl) (by simp only[zA,zB,zC,zD];rfl) ?_|(refine zdX (by first|rfl|(rw[HO.out];rfl)) rfl rfl rfl ?_;apply zEx;apply zEx;refine⟨fun w' hS K hK=>?_,?_,?_⟩;(focus (subst hS;go_wp2;exact hK _ _ (by simp only[zl,zG,zH];first|exact zf (by omega)|exact zg (by omega)|exact zh (by omega)|exact zi (by omega)|exact zj (by omega)|exact zk (by omega)|exact RX.bneB _|rfl) rfl));(focus (simp only[zA,zB,zC,zD];rfl))));refine hR _ _ ?_;clear hR R)
      refine RX.wpL_nil (hQR _ _ rfl ?_);clear hQR QR HO OPS
      go_wp2
      go_roundw
      case rel=>exact⟨k+1,by omega,by omega,by go_num,zN fun j hj=>by
       by_cases hjk:j=k
       ·subst hjk;exact HF.out
       ·exact HN.out j (by omega),grown_drew HB.out⟩
      case measure=>simp[intOf];omega
    ·have HF:Hid (newAt d k=true):=zN (newAt_true hlt (by rw[←HXY.out.1,←HXY.out.2];simp[h0]))
     go_wp2
     refine RX.region RX.fN (fun w'=>w'=_) (by kernel_rfl) (by kernel_rfl) rfl (fun OPS HO QR hQR=>?_)
     repeat (refine zeX (fun R hR=>?_);(first|refine zaX (by first|rfl|(rw[HO.out];rfl)) (by simp only[zA,zB,zC,zD];rfl) ?_|refine zbX (by first|rfl|(rw[HO.out];rfl)) rfl (by first|exact .inl rfl|exact .inr rfl) (by simp only[zE,zF,zG,zH];rfl) (by simp only[zA,zB,zC,zD];rfl) ?_|refine zcX (by first|rfl|(rw[HO.out];rfl)) rfl rfl (by simp only[zE,zF,zG,zH];rfl) (by simp only[zA,zB,zC,zD];rfl) ?_|(refine zdX (by first|rfl|(rw[HO.out];rfl)) rfl rfl rfl ?_;apply zEx;apply zEx;refine⟨fun w' hS K hK=>?_,?_,?_⟩;(focus (subst hS;go_wp2;exact hK _ _ (by simp only[zl,zG,zH];first|exact zf (by omega)|exact zg (by omega)|exact zh (by omega)|exact zi (by omega)|exact zj (by omega)|exact zk (by omega)|exact RX.bneB _|rfl) rfl));(focus (simp only[zA,zB,zC,zD];rfl))));refine hR _ _ ?_;clear hR R)
     refine RX.wpL_nil (hQR _ _ rfl ?_);clear hQR QR HO OPS
     go_wp2
     go_roundw
     case rel=>exact⟨k+1,by omega,by omega,by go_num,zN fun j hj=>by
      by_cases hjk:j=k
      ·subst hjk;exact HF.out
      ·exact HN.out j (by omega),grown_drew HB.out⟩
     case measure=>simp[intOf];omega
   ·obtain rfl:k=d.length:=by omega
    have HA:Hid (comp d d.length=d):=zN (by rw[comp_all (Nat.le_refl _) HN.out,List.take_length])
    go_wp2
    go_ret
    rw[HA.out]
    exact⟨hb.but _,rfl,hP⟩
end Go.Proofs.YtednaajanciabaaGreatDoor
