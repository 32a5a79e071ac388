import Derived.Test.YtednaajanciabaaGreatDoorCards
import Derived.Test.YtednaajanciabaaGreatDoorTie
import Derived.WalkKit
import Derived.ProofKit
import Derived.OpenShut
import Derived.Deep.DeepHandedRow
import Derived.Lib.LaidTab
import Derived.Test.YtednaajanciabaaGreatDoorPost
import Derived.Test.YtednaajanciabaaGreatDoorTabB
import Derived.Test.YtednaajanciabaaGreatDoorAns18Law
import Derived.Test.YtednaajanciabaaGreatDoorKOpenV
import Derived.Test.YtednaajanciabaaGreatDoorOpenRB
set_option maxRecDepth 100000
set_option maxHeartbeats 8000000
/- The card BuddyAnswersCardSaid. -/
set_option linter.unusedSimpArgs false
set_option linter.unusedVariables false
namespace Go.Proofs.YtednaajanciabaaGreatDoor.buddyAnswers
open Go.ChangeShapes Go.WideShapes Go.ChangeAt Go.RowKit
theorem own:ownKnob Tryz.prog.godebug=none:=by kernel_rfl
theorem laidOut:laidOutB Tryz.prog=true:=by kernel_rfl
theorem contract (H:Type) (enc:TypeId × Value→H) (W:World) (base:Nat) (args:Array Value) (ds gs:List (DataW H)) (before:List MemPlace)
  (hval:∀ (j:Nat) t v,Tryz.f6.params[j]?=some t→args[j]?=some v→Value.okWide Tryz.prog W .any base t v)
  (hW:DataW.Whole enc Tryz.prog Tryz.f6.params.toList Rows.buddyAnswersSpec.vars false W args.toList ds gs before) (hL:laidMetH Tryz.prog Rows.buddyAnswersRow.laid W) :
  Calls Tryz.prog 6 args W fun e W'=>∃ v,e=.returned v∧Rows.buddyAnswersSpec.post enc Tryz.prog Tryz.f6 false true false false W args v W':=by
 have hW':=hW
 obtain⟨p,q,hA0,hV,rfl,hfz,hnd⟩:=hW
 have hA:DataW.TrodAll enc Tryz.prog W 0 (fun _=>true) true Tryz.f6.params.toList args.toList ds p:=hA0
 rw[Tryz.params6] at hA hval
 obtain⟨v0,vs0,d0,ds0,p0,q0,hargs,rfl,rfl,h0,r0⟩:=trodAll_cons hA
 obtain⟨v1,vs1,d1,ds1,p1,q1,rfl,rfl,rfl,h1,r1⟩:=trodAll_cons r0
 obtain⟨v2,vs2,d2,ds2,p2,q2,rfl,rfl,rfl,h2,r2⟩:=trodAll_cons r1
 obtain⟨v3,vs3,d3,ds3,p3,q3,rfl,rfl,rfl,h3,r3⟩:=trodAll_cons r2
 obtain⟨v4,vs4,d4,ds4,p4,q4,rfl,rfl,rfl,h4,r4⟩:=trodAll_cons r3
 obtain⟨v5,vs5,d5,ds5,p5,q5,rfl,rfl,rfl,h5,r5⟩:=trodAll_cons r4
 obtain⟨rfl,rfl,rfl⟩:=trodAll_nil r5
 obtain rfl:args=#[v0,v1,v2,v3,v4,v5]:=by cases args;simp_all
 obtain⟨rfl,rfl⟩:=trodVars_none hV
 have k0:=h0
 have k1:=h1
 have k2:=h2
 have k3:=h3
 have k4:=h4
 have k5:=h5
 have l0:∀ x∈p0,x.block < W.heap.size:=fun x hx=>hW'.lt x (by simp[hx])
 have l1:∀ x∈p1,x.block < W.heap.size:=fun x hx=>hW'.lt x (by simp[hx])
 have l2:∀ x∈p2,x.block < W.heap.size:=fun x hx=>hW'.lt x (by simp[hx])
 have l3:∀ x∈p3,x.block < W.heap.size:=fun x hx=>hW'.lt x (by simp[hx])
 have l4:∀ x∈p4,x.block < W.heap.size:=fun x hx=>hW'.lt x (by simp[hx])
 have l5:∀ x∈p5,x.block < W.heap.size:=fun x hx=>hW'.lt x (by simp[hx])
 clear hA0
 obtain⟨q0,cap0,Lb0,rfl,vec0,rd0⟩:=open_repsBR (hval 0 25 v0 rfl rfl) h0
 obtain⟨ct1,rfl⟩:=open_ctl (hval 1 29 v1 rfl rfl) h1
 obtain⟨q2,cap2,L2,rfl,vec2,i642,len2,max2⟩:=open_vec (hval 2 22 v2 rfl rfl) h2
 obtain⟨a3,rfl,rfl,rfl,w3⟩:=open_int Tryz.underlying3 (hval 3 3 v3 rfl rfl) h3
 have b3:=bounds_i64 w3
 obtain⟨a4,rfl,rfl,rfl,w4⟩:=open_int Tryz.underlying3 (hval 4 3 v4 rfl rfl) h4
 have b4:=bounds_i64 w4
 obtain⟨a5,rfl,rfl,rfl,w5⟩:=open_int Tryz.underlying3 (hval 5 3 v5 rfl rfl) h5
 have b5:=bounds_i64 w5
 refine (ans18_law W q0 cap0 Lb0 vec0 rd0 ct1 q2 cap2 L2 a3 a4 a5 vec2 i642 len2 max2 (has_tab hL) (has_bnd hL)).mono fun e W' ⟨he,hg⟩=>?_
 subst he
 exact⟨_,rfl,RX.post_law hW' (trodAll_cons_mk (shut_bool Tryz.underlying4 _) trodAll_mk0) (trodAll_cons_mk (Below.trod laidOut (by kernel_rfl) (of_decide_eq_true (by kernel_rfl)) k0 hg l0) (trodAll_cons_mk (Below.trod laidOut (by kernel_rfl) (of_decide_eq_true (by kernel_rfl)) k1 hg l1) (trodAll_cons_mk (Below.trod laidOut (by kernel_rfl) (of_decide_eq_true (by kernel_rfl)) k2 hg l2) (trodAll_cons_mk (Below.trod laidOut (by kernel_rfl) (of_decide_eq_true (by kernel_rfl)) k3 hg l3) (trodAll_cons_mk (Below.trod laidOut (by kernel_rfl) (of_decide_eq_true (by kernel_rfl)) k4 hg l4) (trodAll_cons_mk (Below.trod laidOut (by kernel_rfl) (of_decide_eq_true (by kernel_rfl)) k5 hg l5) trodAll_mk0)))))) rfl hg⟩
noncomputable def laidWorld (os:Os):World:=
 { World.holding Tryz.prog os ⟨#[],#[],[]⟩ with
  heap:=((World.holding Tryz.prog os ⟨#[],#[],[]⟩).heap.modify 1 (fun
   |.cells _ t frozen=>.cells #[.int .i64 0,.int .i64 1,.int .i64 2,.int .i64 0,.int .i64 2,.int .i64 3,.int .i64 0,.int .i64 3,.int .i64 4,.int .i64 0,.int .i64 4,.int .i64 5,.int .i64 0,.int .i64 5,.int .i64 1,.int .i64 1,.int .i64 6,.int .i64 2,.int .i64 2,.int .i64 7,.int .i64 3,.int .i64 3,.int .i64 8,.int .i64 4,.int .i64 4,.int .i64 9,.int .i64 5,.int .i64 5,.int .i64 10,.int .i64 1,.int .i64 6,.int .i64 7,.int .i64 2,.int .i64 7,.int .i64 8,.int .i64 3,.int .i64 8,.int .i64 9,.int .i64 4,.int .i64 9,.int .i64 10,.int .i64 5,.int .i64 10,.int .i64 6,.int .i64 1,.int .i64 11,.int .i64 7,.int .i64 6,.int .i64 11,.int .i64 8,.int .i64 7,.int .i64 11,.int .i64 9,.int .i64 8,.int .i64 11,.int .i64 10,.int .i64 9,.int .i64 11,.int .i64 6,.int .i64 10] t frozen
   |o=>o)).modify 0 fun
   |.cells _ t frozen=>.cells #[.int .i64 8000,.int .i64 11000,.int .i64 1800,.int .i64 3300,.int .i64 1800,.int .i64 3300,.int .i64 (-1000),.int .i64 1000,.int .i64 (-1000),.int .i64 1000,.int .i64 900,.int .i64 1700,.int .i64 2000,.int .i64 3200,.int .i64 2400,.int .i64 3400,.int .i64 2000,.int .i64 3000,.int .i64 4400,.int .i64 6200,.int .i64 2000,.int .i64 2900] t frozen
   |o=>o }
theorem laid_met (os:Os):laidMet Tryz.prog Rows.buddyAnswersRow.laid ((laidWorld os).forCall (fun _ _=>0) ⟨#[],#[.slice none 0 0,ctl0,.slice none 0 0,.int .i64 0,.int .i64 0,.int .i64 0],[]⟩).memory:=
 laidMet_of_run' 8 (by kernel_rfl) (by kernel_rfl)
theorem reads (os:Os) {H:Type} (enc:TypeId × Value→H):∃ places,DataW.whole enc Tryz.prog ((laidWorld os).forCall (fun _ _=>0) ⟨#[],#[.slice none 0 0,ctl0,.slice none 0 0,.int .i64 0,.int .i64 0,.int .i64 0],[]⟩).memory Tryz.f6.params.toList Rows.buddyAnswersSpec.vars false (#[.slice none 0 0,ctl0,.slice none 0 0,.int .i64 0,.int .i64 0,.int .i64 0]:Array Value).toList 8=some ([.nil,dat0 H,.nil,.lit (.int .i64 0),.lit (.int .i64 0),.lit (.int .i64 0)],[],places):=
 ⟨[],by kernel_rfl⟩
theorem lifted (os:Os) (started:os.Started) (H:Type) (enc:TypeId × Value→H) (F:Stop.Interp) :
  ReturnsInHanded {} Tryz.checked os 6 .any ((OpenSpec.ofChange Rows.buddyAnswersSpec).preRow enc Tryz.prog Tryz.f6 Rows.buddyAnswersRow.domain false Rows.buddyAnswersRow.laid) (((OpenSpec.ofChange Rows.buddyAnswersSpec).at F).post enc Tryz.prog Tryz.f6 false true false false):=by
 obtain⟨places,hx⟩:=reads os enc
 refine returnsInHanded_of_row (C:=Tryz.checked) (s:=OpenSpec.ofChange Rows.buddyAnswersSpec) own started (by kernel_rfl) Tryz.func6
  (witness_row_at (enc:=enc) (C:=Tryz.checked) false (laidWorld os) #[.slice none 0 0,ctl0,.slice none 0 0,.int .i64 0,.int .i64 0,.int .i64 0] rfl (by kernel_rfl) (by kernel_rfl) (by kernel_rfl)
   (OpenSpec.preRow_of_cond 8 hx (by kernel_rfl) (fun k hk=>by cases hk) (by kernel_rfl) (laid_met os))) ?_
 intro W base args ds gs before hval hW _ _ _ hL _ _
 exact contract H enc W base args ds gs before hval hW hL
theorem said:Rows.BuddyAnswersSaid:=
 OpenClaim.holds_of_cond 6 Tryz.f6 rfl rfl rfl rfl rfl rfl rfl ⟨rfl,rfl,rfl,rfl,rfl⟩ rfl rfl rfl rfl rfl (by kernel_rfl) Tryz.func6 (by kernel_rfl)
  (of_decide_eq_true (by kernel_rfl)) (by unfold Func.isWrapper;first|(rw[if_pos (by decide +kernel)];kernel_rfl)|(rw[if_neg (by decide +kernel)];exact⟨rfl,rfl⟩))
  (fun os started H enc _ F=>by rw[OpenClaim.pre_eq_preRow];exact lifted os started H enc F)
theorem plain (f : FuncId) (fn : Func) (hf : Tryz.pinned.checked.prog.funcNamed "synoptic/synopticlaw18.BuddyAnswers" = some f) (hfn : Tryz.pinned.checked.prog.funcs[f]? = some fn) :
  false=Tryz.pinned.checked.prog.looks []∧∀ (j:Nat) t,fn.params[j]?=some t→Tryz.pinned.checked.prog.wantsStandIn t=false:=by
 obtain rfl : f = 6 := Option.some.inj ((show Tryz.prog.funcNamed "synoptic/synopticlaw18.BuddyAnswers" = some 6 by kernel_rfl).symm.trans hf) |>.symm
 obtain rfl:fn=Tryz.f6:=(Option.some.inj (Tryz.func6.symm.trans hfn)).symm
 refine⟨by kernel_rfl,fun j t ht=>?_⟩
 rw[Tryz.params6] at ht
 have hm:=Array.mem_of_getElem? ht
 simp at hm
 have hs:t=25∨t=29∨t=22∨t=3:=by omega
 rcases hs with rfl|rfl|rfl|rfl
 ·exact (show Tryz.prog.wantsStandIn 25=false by kernel_rfl)
 ·exact (show Tryz.prog.wantsStandIn 29=false by kernel_rfl)
 ·exact (show Tryz.prog.wantsStandIn 22=false by kernel_rfl)
 ·exact (show Tryz.prog.wantsStandIn 3=false by kernel_rfl)
theorem card:Rows.BuddyAnswersCardSaid:=
 Claim7.holds_tied_plain_at .later [] _ _ _ _ said (fun _ h=>by cases h) (by kernel_rfl) (fun _ h=>by cases h) buddyAnswers_row_tie rfl ⟨rfl,rfl⟩ (by kernel_rfl) rfl plain (by kernel_rfl)
#print axioms card
end Go.Proofs.YtednaajanciabaaGreatDoor.buddyAnswers
