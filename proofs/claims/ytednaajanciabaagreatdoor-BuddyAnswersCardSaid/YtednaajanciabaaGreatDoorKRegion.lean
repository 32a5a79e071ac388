import Derived.Orders
import Derived.StillTail
import Derived.Laws.World
import Derived.Lib.Hide
import Derived.WalkKit
import Derived.Deep.AppendLies
import Derived.Deep.Draws
set_option maxRecDepth 100000
set_option maxHeartbeats 8000000
set_option linter.unusedSimpArgs false
set_option linter.unusedVariables false
namespace Go
theorem zK (w:World) (a b:Addr) (v:Value) (h:a≠b):(w.setCell a v).cell? b=w.cell? b:=World.cell?_setCell_other w a b v h
theorem zL (w:World) (a:Addr) (v:Value) (h:(w.cell? a).isSome=true):(w.setCell a v).cell? a=some v:=World.cell?_setCell_same' w a v h
theorem zM (w:World) (a:Addr) {u:Value} (h:w.cell? a=some u):a.block < w.heap.size:=World.block_lt_of_cell? w a h
theorem zQ (a b c:Nat):a+b+c=a+(b+c):=Nat.add_assoc a b c
abbrev zN:=@Lib.hid
end Go
namespace Go.RX
def noExit:Exit→Act→World→Prop:=fun _ _ _=>False
def nocall (o:Oper):Bool:=match o.op with
 |.move _|.assign _|.pick ..|.build ..|.load ..|.binOp ..|.unOp ..|.convert ..|.makeFunc ..|.makeInterface ..|.slice ..|.fieldAddr ..|.field ..|.indexAddr ..|.index ..|.lookup ..|.extract ..=>true
 |.call { callee:=.builtin .len,.. }|.call { callee:=.builtin .cap,.. }|.call { callee:=.builtin .min,.. }|.call { callee:=.builtin .max,.. }=>true
 |_=>false
section
variable {P:Program} {ops:Array Oper} {S:World→Prop}
def Obl (P:Program) (S:World→Prop) (o:Oper) (v:Value) (a:Act):Prop:=
 ∀ w,S w→∃ u,(execOp a.eval o).run P w=.ok (.value u) w∧∀ d,o.dst=some d→d < a.tmps.size→u=v
theorem put_eq {o:Oper} {a:Act} {u v:Value} (h:∀ d,o.dst=some d→d < a.tmps.size→u=v):a.put o.dst u=a.put o.dst v:=by
 cases hd:o.dst with
 |none=>rfl
 |some d=>
  by_cases hl:d < a.tmps.size
  ·rw[h d hd hl]
  ·simp only[Act.put]
   have hl':a.tmps.size≤d:=Nat.le_of_not_lt hl
   rw[Array.setIfInBounds_eq_of_size_le hl',Array.setIfInBounds_eq_of_size_le hl']
def wpG (P:Program) (ops:Array Oper) (S:World→Prop) (Q:Act→World→Prop):List (Bool × Nat)→Act→World→Prop
 |[],a,w=>Q a w
 |(f,i) :: r,a,w=>
  match ops[i]? with
  |none=>False
  |some o=>
   if Region.wanted o (yielded ops a.tmps) then
    if f then ∃ v,Obl P S o v a∧wpG P ops S Q r (a.put o.dst v) w
    else o.wp P a w (fun a' w'=>S w'∧wpG P ops S Q r a' w') noExit
   else wpG P ops S Q r (a.put o.dst undef) w
theorem value_of_nocall {o:Oper} (hn:nocall o=true) {ρ:Operand→Value} {w w':World} {n:Next} (h:(execOp ρ o).run P w=.ok n w'):∃ u,n=.value u:=by
 obtain⟨dst,op,type,pos,after,guard⟩:=o
 have key:∀ {α:Type} (s:Sem α) (f:α→Value),(s >>= fun v=>pure (Next.value (f v))).run P w=.ok n w'→∃ u,n=.value u:=by
  intro α s f hs
  rw[Sem.run_bind] at hs
  cases hr:s.run P w with
  |ok v w1=>rw[hr] at hs;simp only[Result.andThen_ok,Sem.run_pure] at hs;injection hs with h1;exact⟨_,h1.symm⟩
  |halt x w1=>rw[hr] at hs;simp[Result.andThen] at hs
 cases op<;>simp only[nocall,Bool.false_eq_true] at hn<;>simp only[execOp] at h
 case call c=>
  obtain⟨callee,args,argTypes⟩:=c
  cases callee with
  |builtin b=>cases b<;>simp only[Bool.false_eq_true] at hn<;>exact key _ id h
  |value f=>simp at hn
  |invoke r m=>simp at hn
 case pick c a b=>exact key _ (fun t:Bool=>if t=true then ρ a else ρ b) h
 all_goals first
  |exact key _ id h
  |(rw[Sem.run_pure] at h;injection h with h1;exact⟨_,h1.symm⟩)
def After (o:Oper) (a a':Act):Prop:=∃ u ds,a'=({ a with defers:=ds }:Act).put o.dst u
theorem wp_after {o:Oper} {a:Act} {w:World} {K:Act→World→Prop} (h:o.wp P a w K noExit):o.wp P a w (fun a' w'=>After o a a'∧K a' w') noExit:=by
 unfold Oper.wp at *
 generalize (execOp a.eval o).run P w=r at *
 cases r with
 |ok n w'=>
  cases n<;>simp only[Oper.upon] at h ⊢
  case value u=>exact⟨⟨u,_,rfl⟩,h⟩
  case skip=>exact⟨⟨_,_,rfl⟩,h⟩
  case defer d=>exact⟨⟨_,_,rfl⟩,h⟩
  case enter f args=>
   refine Calls.mono h fun e w'' he=>?_
   cases e with
   |returned u=>exact⟨⟨u,_,rfl⟩,he⟩
   |panicked c=>exact he
   |outgrown=>exact he
  case row row args=>exact Rows.mono h fun u w'' he=>⟨⟨u,_,rfl⟩,he⟩
 |halt x w'=>cases x<;>simp only[Oper.upon] at h ⊢;exact h
theorem wp_some {o:Oper} {a:Act} {w:World} {K:Act→World→Prop} (h:o.wp P a w K noExit):∃ a' w',K a' w':=by
 unfold Oper.wp at h
 generalize (execOp a.eval o).run P w=r at *
 cases r with
 |ok n w'=>
  cases n<;>simp only[Oper.upon] at h
  case value u=>exact⟨_,_,h⟩
  case skip=>exact⟨_,_,h⟩
  case defer d=>exact⟨_,_,h⟩
  case enter f args=>
   obtain⟨e,w'',fr,hR,_⟩:=h []
   cases e with
   |returned u=>exact⟨_,_,hR⟩
   |panicked c=>exact hR.elim
   |outgrown=>obtain⟨_,_,hR⟩:=hR;exact hR.elim
  case row row args=>
   obtain⟨v,w'',hR,_⟩:=h default []
   exact⟨_,_,hR⟩
 |halt x w'=>cases x<;>simp only[Oper.upon] at h;exact h.elim
theorem wp_put {oj:Oper} {x:Option Tmp} {v:Value} {a:Act} {w:World} {K:Act→World→Prop} (hs:∀ cs b,oj.op≠.select cs b)
  (h1:∀ d,x=some d→d ∉ oj.looksAt ops) (h2:∀ d,x=some d→oj.dst≠some d) (h:oj.wp P (a.put x v) w K noExit) :
  oj.wp P a w (fun a' w'=>After oj a a'∧K (a'.put x v) w') noExit:=by
 refine wp_after ?_
 unfold Oper.wp at *
 rw[execOp_put (ops:=ops) oj hs a x v h1] at h
 generalize (execOp a.eval oj).run P w=r at *
 cases r with
 |ok n w'=>
  cases n<;>simp only[Oper.upon] at h ⊢
  case value u=>rw[←Act.put_comm a v u h2];exact h
  case skip=>rw[←Act.put_comm a v undef h2];exact h
  case defer d=>rw[←Act.put_comm _ v undef h2,←Act.put_defers];exact h
  case enter f args=>
   refine Calls.mono h fun e w'' he=>?_
   cases e with
   |returned u=>show K ((a.put oj.dst u).put x v) w'';rw[←Act.put_comm a v u h2];exact he
   |panicked c=>exact he
   |outgrown=>exact he
  case row row args=>exact Rows.mono h fun u w'' he=>by rw[←Act.put_comm a v u h2];exact he
 |halt x w'=>cases x<;>simp only[Oper.upon] at h ⊢;exact h
structure Apart (ops:Array Oper) (x y:Oper):Prop where
 one:∀ d,x.dst=some d→d ∉ y.looksAt ops
 two:∀ d,x.dst=some d→y.dst≠some d
 three:∀ d,y.dst=some d→d ∉ x.looksAt ops
 selx:∀ cs b,x.op≠.select cs b
 sely:∀ cs b,y.op≠.select cs b
theorem after_exec {x y:Oper} (hap:Apart ops x y) {a a':Act} (h:After x a a'):execOp a'.eval y=execOp a.eval y:=by
 obtain⟨u,ds,rfl⟩:=h
 exact execOp_put (ops:=ops) y hap.sely { a with defers:=ds } x.dst u hap.one
theorem after_wanted {x y:Oper} (hap:Apart ops x y) {a a':Act} (h:After x a a'):Region.wanted y (yielded ops a'.tmps)=Region.wanted y (yielded ops a.tmps):=by
 obtain⟨u,ds,rfl⟩:=h
 exact wanted_put y { a with defers:=ds } x.dst u hap.one
theorem After.size {x:Oper} {a a':Act} (h:After x a a'):a'.tmps.size=a.tmps.size:=by
 obtain⟨u,ds,rfl⟩:=h
 cases hx:x.dst<;>simp[Act.put]
theorem Obl.after {x y:Oper} (hap:Apart ops x y) {a a':Act} (h:After x a a') {v:Value} (ho:Obl P S y v a):Obl P S y v a':=by
 unfold Obl
 rw[after_exec hap h,h.size]
 exact ho
theorem Obl.before {x y:Oper} (hap:Apart ops x y) {a a':Act} (h:After x a a') {v:Value} (ho:Obl P S y v a'):Obl P S y v a:=by
 unfold Obl at *
 rw[after_exec hap h,h.size] at ho
 exact ho
theorem Obl.eq {o:Oper} {v v':Value} {a:Act} (h:Obl P S o v a) (h':Obl P S o v' a) {w:World} (hw:S w):∀ d,o.dst=some d→d < a.tmps.size→v'=v:=by
 intro d hd hl
 obtain⟨u,h1,h2⟩:=h w hw
 obtain⟨u',h3,h4⟩:=h' w hw
 rw[h1] at h3
 injection h3 with h3
 injection h3 with h3
 rw[←h2 d hd hl,←h4 d hd hl,h3]
theorem After.put (x:Oper) (a:Act) (u:Value):After x a (a.put x.dst u):=⟨u,a.defers,rfl⟩
theorem hoistF {Q:Act→World→Prop} {i:Nat} {o:Oper} (hi:ops[i]?=some o) (post:List (Bool × Nat)):∀ (pre:List (Bool × Nat)) (a:Act) (w:World),
  (∀ p∈pre,∀ op,ops[p.2]?=some op→Apart ops op o)→S w→wpG P ops S Q (pre ++ (true,i) :: post) a w→
  if Region.wanted o (yielded ops a.tmps) then ∃ v,Obl P S o v a∧wpG P ops S Q (pre ++ post) (a.put o.dst v) w else wpG P ops S Q (pre ++ post) (a.put o.dst undef) w
 |[],a,w,_,_,h=>by
  simp only[List.nil_append,wpG,hi,if_true] at h
  exact h
 |(f,p) :: pre,a,w,hap,hS,h=>by
  simp only[List.cons_append,wpG] at h
  cases hp:ops[p]? with
  |none=>rw[hp] at h;exact h.elim
  |some op=>
   rw[hp] at h
   dsimp only at h
   have hap1:Apart ops op o:=hap (f,p) (List.mem_cons_self ..) op hp
   have ih:=hoistF (Q:=Q) hi post pre
   have hap':∀ q∈pre,∀ op,ops[q.2]?=some op→Apart ops op o:=fun q hq=>hap q (List.mem_cons_of_mem _ hq)
   have hsym:∀ v u,(a.put op.dst u).put o.dst v=(a.put o.dst v).put op.dst u:=fun v u=>Act.put_comm a u v hap1.two
   have hwp:∀ v,Region.wanted op (yielded ops (a.put o.dst v).tmps)=Region.wanted op (yielded ops a.tmps):=fun v=>wanted_put op a o.dst v hap1.three
   have hep:∀ (a:Act) v,execOp (a.put o.dst v).eval op=execOp a.eval op:=fun a v=>execOp_put (ops:=ops) op hap1.selx a o.dst v hap1.three
   by_cases hwt:Region.wanted op (yielded ops a.tmps)=true
   ·rw[if_pos hwt] at h
    cases f with
    |true=>
     simp only[if_true] at h
     obtain⟨vp,hop,hr⟩:=h
     have haf:=After.put op a vp
     have h1:=ih _ _ hap' hS hr
     rw[after_wanted hap1 haf] at h1
     have hkeep:∀ v,Obl P S op vp (a.put o.dst v):=fun v=>by
      unfold Obl at *
      rw[hep]
      have:(a.put o.dst v).tmps.size=a.tmps.size:=by cases o.dst<;>simp[Act.put]
      rw[this];exact hop
     split
     ·rename_i hw;rw[if_pos hw] at h1
      obtain⟨v,h2,h3⟩:=h1
      refine⟨v,h2.before hap1 haf,?_⟩
      simp only[List.cons_append,wpG,hp]
      rw[hwp,if_pos hwt,if_pos True.intro]
      exact⟨vp,hkeep v,by rw[←hsym];exact h3⟩
     ·rename_i hw;rw[if_neg hw] at h1
      simp only[List.cons_append,wpG,hp]
      rw[hwp,if_pos hwt,if_pos True.intro]
      exact⟨vp,hkeep _,by rw[←hsym];exact h1⟩
    |false=>
     simp only[Bool.false_eq_true,if_false] at h
     have h0:=wp_after h
     have back:∀ v,op.wp P a w (fun a' w'=>S w'∧wpG P ops S Q (pre ++ post) (a'.put o.dst v) w') noExit→wpG P ops S Q (((false,p) :: pre) ++ post) (a.put o.dst v) w:=fun v hh=>by
      simp only[List.cons_append,wpG,hp]
      rw[hwp,if_pos hwt]
      simp only[Bool.false_eq_true,if_false]
      unfold Oper.wp at hh ⊢
      rw[hep]
      generalize (execOp a.eval op).run P w=r at *
      cases r with
      |ok n w'=>
       cases n<;>simp only[Oper.upon] at hh ⊢
       case value u=>rw[←hsym];exact hh
       case skip=>rw[←hsym];exact hh
       case defer d=>
        refine⟨hh.1,?_⟩
        have h5:=hh.2
        rw[Act.put_comm _ undef v hap1.two] at h5
        rw[Act.put_defers];exact h5
       case enter fn args=>
        refine Calls.mono hh fun e w'' he=>?_
        cases e with
        |returned u=>show _∧wpG P ops S Q (pre ++ post) ((a.put o.dst v).put op.dst u) w'';rw[←hsym];exact he
        |panicked c=>exact he
        |outgrown=>obtain⟨_,_,he⟩:=he;exact he.elim
       case row row args=>exact Rows.mono hh fun u w'' he=>by rw[←hsym];exact he
      |halt x w'=>cases x<;>simp only[Oper.upon] at hh ⊢;exact hh
     split
     ·rename_i hw
      obtain⟨a1,w1,haf1,hS1,hr1⟩:=wp_some h0
      have h1:=ih _ _ hap' hS1 hr1
      rw[after_wanted hap1 haf1,if_pos hw] at h1
      obtain⟨v,h2,_⟩:=h1
      have hv:=h2.before hap1 haf1
      refine⟨v,hv,back v (Oper.wp_mono (fun a' w' hh=>⟨hh.2.1,?_⟩) h0)⟩
      have h3:=ih _ _ hap' hh.2.1 hh.2.2
      rw[after_wanted hap1 hh.1,if_pos hw] at h3
      obtain⟨v',h4,h5⟩:=h3
      have h6:=(h4.before hap1 hh.1)
      have h7:=hv.eq h6 hS
      rw[put_eq (o:=o) (u:=v) (v:=v') (fun d hd hl=>(h7 d hd (by rw[hh.1.size] at hl;exact hl)).symm)]
      exact h5
     ·rename_i hw
      refine back undef (Oper.wp_mono (fun a' w' hh=>⟨hh.2.1,?_⟩) h0)
      have h3:=ih _ _ hap' hh.2.1 hh.2.2
      rw[after_wanted hap1 hh.1,if_neg hw] at h3
      exact h3
   ·rw[if_neg hwt] at h
    have haf:=After.put op a undef
    have h1:=ih _ _ hap' hS h
    rw[after_wanted hap1 haf] at h1
    split
    ·rename_i hw;rw[if_pos hw] at h1
     obtain⟨v,h2,h3⟩:=h1
     refine⟨v,h2.before hap1 haf,?_⟩
     simp only[List.cons_append,wpG,hp]
     rw[hwp,if_neg hwt,←hsym];exact h3
    ·rename_i hw;rw[if_neg hw] at h1
     simp only[List.cons_append,wpG,hp]
     rw[hwp,if_neg hwt,←hsym];exact h1
theorem hoistC {Q:Act→World→Prop} {i:Nat} {o:Oper} (hi:ops[i]?=some o) (post:List (Bool × Nat)):∀ (pre:List (Bool × Nat)) (a:Act) (w:World),
  (∀ p∈pre,p.1=true∧∀ op,ops[p.2]?=some op→Apart ops op o)→wpG P ops S Q (pre ++ (false,i) :: post) a w→
  if Region.wanted o (yielded ops a.tmps) then o.wp P a w (fun a' w'=>S w'∧wpG P ops S Q (pre ++ post) a' w') noExit else wpG P ops S Q (pre ++ post) (a.put o.dst undef) w
 |[],a,w,_,h=>by
  simp only[List.nil_append,wpG,hi,Bool.false_eq_true,if_false] at h
  exact h
 |(f,p) :: pre,a,w,hap,h=>by
  simp only[List.cons_append,wpG] at h
  cases hp:ops[p]? with
  |none=>rw[hp] at h;exact h.elim
  |some op=>
   rw[hp] at h
   dsimp only at h
   obtain⟨hf,hap0⟩:=hap (f,p) (List.mem_cons_self ..)
   simp only at hf;subst hf
   have hap1:Apart ops op o:=hap0 op hp
   have ih:=hoistC (Q:=Q) hi post pre
   have hap':∀ q∈pre,q.1=true∧∀ op,ops[q.2]?=some op→Apart ops op o:=fun q hq=>hap q (List.mem_cons_of_mem _ hq)
   have hwo:∀ u,Region.wanted o (yielded ops (a.put op.dst u).tmps)=Region.wanted o (yielded ops a.tmps):=fun u=>wanted_put o a op.dst u hap1.one
   have hap2:Apart ops o op:=⟨hap1.three,fun d hd he=>hap1.two d he hd,hap1.one,hap1.sely,hap1.selx⟩
   by_cases hwt:Region.wanted op (yielded ops a.tmps)=true
   ·rw[if_pos hwt] at h
    simp only[if_true] at h
    obtain⟨vp,hop,hr⟩:=h
    have h1:=ih _ _ hap' hr
    rw[hwo] at h1
    split
    ·rename_i hw;rw[if_pos hw] at h1
     refine Oper.wp_mono (fun a' w' hh=>⟨hh.2.1,?_⟩) (wp_put (ops:=ops) hap1.sely hap1.one (fun d hd=>hap1.two d hd) h1)
     simp only[List.cons_append,wpG,hp]
     rw[after_wanted hap2 hh.1,if_pos hwt,if_pos True.intro]
     exact⟨vp,hop.after hap2 hh.1,hh.2.2⟩
    ·rename_i hw;rw[if_neg hw] at h1
     simp only[List.cons_append,wpG,hp]
     have haf:=After.put o a undef
     rw[after_wanted hap2 haf,if_pos hwt,if_pos True.intro]
     exact⟨vp,hop.after hap2 haf,by rw[←Act.put_comm _ vp undef hap1.two];exact h1⟩
   ·rw[if_neg hwt] at h
    have h1:=ih _ _ hap' h
    rw[hwo] at h1
    split
    ·rename_i hw;rw[if_pos hw] at h1
     refine Oper.wp_mono (fun a' w' hh=>⟨hh.2.1,?_⟩) (wp_put (ops:=ops) hap1.sely hap1.one (fun d hd=>hap1.two d hd) h1)
     simp only[List.cons_append,wpG,hp]
     rw[after_wanted hap2 hh.1,if_neg hwt]
     exact hh.2.2
    ·rename_i hw;rw[if_neg hw] at h1
     simp only[List.cons_append,wpG,hp]
     rw[after_wanted hap2 (After.put o a undef),if_neg hwt,←Act.put_comm _ undef undef hap1.two]
     exact h1
inductive Anc (ops:Array Oper):Nat→Nat→Prop where
 |edge {j:Nat} {o:Oper} {e:Edge} (hj:ops[j]?=some o) (he:e∈o.after) (hb:Region.binds .any e=true):Anc ops e.on j
 |step {i j:Nat} {o:Oper} {e:Edge} (hj:ops[j]?=some o) (he:e∈o.after) (hb:Region.binds .any e=true) (h:Anc ops i e.on):Anc ops i j
def Deps (ops:Array Oper) (listed:Array Bool) (j:Nat):Prop:=∀ o,ops[j]?=some o→∀ e∈o.after,Region.binds .any e=true→listed.getD e.on false=true
theorem anc_listed {listed:Array Bool} (hc:∀ j,listed.getD j false=true→Deps ops listed j) {i j:Nat} (h:Anc ops i j):Deps ops listed j→listed.getD i false=true:=by
 induction h with
 |edge hj he hb=>exact fun hd=>hd _ hj _ he hb
 |step hj he hb _ ih=>exact fun hd=>ih (hc _ (hd _ hj _ he hb))
def maskOf (acc:Array Nat) (o:Oper):Nat:=o.after.foldl (fun s e=>if Region.binds .any e then s ||| 2 ^ e.on ||| acc.getD e.on 0 else s) 0
def masksFrom (acc:Array Nat):List Oper→Array Nat
 |[]=>acc
 |o :: r=>masksFrom (acc.push (maskOf acc o)) r
theorem maskOf_spec {acc:Array Nat} {o:Oper} {j:Nat} (hj:ops[j]?=some o) (ha:∀ i j,(acc.getD j 0).testBit i=true→Anc ops i j) {i:Nat} (h:(maskOf acc o).testBit i=true):Anc ops i j:=by
 have key:∀ (l:List Edge) (s:Nat),(∀ e∈l,e∈o.after)→(s.testBit i=true→Anc ops i j)→(l.foldl (fun s e=>if Region.binds .any e then s ||| 2 ^ e.on ||| acc.getD e.on 0 else s) s).testBit i=true→Anc ops i j:=by
  intro l
  induction l with
  |nil=>intro s _ hs h;exact hs h
  |cons e l ih=>
   intro s hl hs h
   refine ih _ (fun e' he'=>hl e' (List.mem_cons_of_mem _ he')) ?_ h
   intro h1
   dsimp only at h1
   by_cases hb:Region.binds .any e=true
   ·rw[if_pos hb] at h1
    rw[Nat.testBit_or,Nat.testBit_or,Bool.or_eq_true,Bool.or_eq_true] at h1
    rcases h1 with (h1|h1)|h1
    ·exact hs h1
    ·rw[Nat.testBit_two_pow] at h1
     have:e.on=i:=by simpa using h1
     subst this
     exact .edge hj (hl e (List.mem_cons_self ..)) hb
    ·exact .step hj (hl e (List.mem_cons_self ..)) hb (ha _ _ h1)
   ·rw[if_neg hb] at h1;exact hs h1
 unfold maskOf at h
 rw[←Array.foldl_toList] at h
 exact key o.after.toList 0 (fun e he=>by simpa using he) (by simp) h
theorem masksFrom_spec:∀ (l:List Oper) (acc:Array Nat),(∀ j,l[j]?=ops[acc.size+j]?)→(∀ i j,(acc.getD j 0).testBit i=true→Anc ops i j)→∀ i j,((masksFrom acc l).getD j 0).testBit i=true→Anc ops i j
 |[],_,_,ha,i,j,h=>ha i j h
 |o :: r,acc,hl,ha,i,j,h=>by
  refine masksFrom_spec r (acc.push (maskOf acc o)) (fun k=>?_) (fun i j hij=>?_) i j h
  ·have:=hl (k+1);simp only[List.getElem?_cons_succ] at this;rw[this];simp[zQ,Nat.add_comm 1 k]
  ·have h0:ops[acc.size]?=some o:=by simpa using (hl 0).symm
   rcases Nat.lt_trichotomy j acc.size with hlt|heq|hgt
   ·refine ha i j ?_
    simpa[Array.getD_eq_getD_getElem?,Array.getElem?_push,Nat.ne_of_lt hlt] using hij
   ·subst heq
    refine maskOf_spec h0 ha ?_
    simpa[Array.getD_eq_getD_getElem?] using hij
   ·have:(acc.push (maskOf acc o))[j]?=none:=Array.getElem?_eq_none (by simp;omega)
    simp[Array.getD_eq_getD_getElem?,this] at hij
def pairOk (flo:Oper→Bool) (ops:Array Oper) (m:Array Nat) (i j:Nat):Bool:=
 (m.getD j 0).testBit i || match ops[i]?,ops[j]? with
  |some x,some y=>x.apart ops y && (flo x || flo y)
  |_,_=>true
def chkG (flo:Oper→Bool) (l:List Oper):Bool:=
 let m:=masksFrom #[] l
 Region.noSelect l.toArray && (l.zipIdx.all fun (o,j)=>o.after.all fun e=>!Region.binds .any e || decide (e.on < j)) &&
  (List.range l.length).all fun j=>(List.range j).all fun i=>pairOk flo l.toArray m i j
def wpL (P:Program) (ops:Array Oper) (flo:Oper→Bool) (S:World→Prop) (Q:Act→World→Prop):List Oper→Act→World→Prop
 |[],a,w=>Q a w
 |o :: r,a,w=>
  if Region.wanted o (yielded ops a.tmps) then
   if flo o then ∃ v,Obl P S o v a∧wpL P ops flo S Q r (a.put o.dst v) w
   else o.wp P a w (fun a' w'=>S w'∧wpL P ops flo S Q r a' w') noExit
  else wpL P ops flo S Q r (a.put o.dst undef) w
def flags (flo:Oper→Bool):Nat→List Oper→List (Bool × Nat)
 |_,[]=>[]
 |k,o :: r=>(flo o,k) :: flags flo (k+1) r
theorem wpG_of_wpL {flo:Oper→Bool} {Q:Act→World→Prop}:∀ (l:List Oper) (k:Nat) (a:Act) (w:World),(∀ j,l[j]?=ops[k+j]?)→wpL P ops flo S Q l a w→wpG P ops S Q (flags flo k l) a w
 |[],_,_,_,_,h=>h
 |o :: r,k,a,w,hl,h=>by
  have h0:ops[k]?=some o:=by simpa using (hl 0).symm
  have ih:=fun a w=>wpG_of_wpL (flo:=flo) (Q:=Q) r (k+1) a w (fun j=>by have:=hl (j+1);simpa[zQ,Nat.add_comm 1 j] using this)
  simp only[wpL] at h
  simp only[flags,wpG,h0]
  split
  ·rename_i hw;rw[if_pos hw] at h
   split
   ·rename_i hf;rw[if_pos hf] at h;obtain⟨v,h1,h2⟩:=h;exact⟨v,h1,ih _ _ h2⟩
   ·rename_i hf;rw[if_neg hf] at h;exact Oper.wp_mono (fun a' w' hh=>⟨hh.1,ih _ _ hh.2⟩) h
  ·rename_i hw;rw[if_neg hw] at h;exact ih _ _ h
structure Left (flo:Oper→Bool) (ops:Array Oper) (listed:Array Bool) (L:List (Bool × Nat)):Prop where
 size:listed.size=ops.size
 mem:∀ f i,(f,i)∈L→i < ops.size∧listed.getD i true=false∧∀ o,ops[i]?=some o→flo o=f
 all:∀ i,i < ops.size→listed.getD i true=false→∃ f,(f,i)∈L
 sorted:L.Pairwise fun x y=>x.2 < y.2
 closed:∀ j,listed.getD j false=true→Deps ops listed j
theorem wpAny_of_wpG {flo:Oper→Bool} {Q:Act→World→Prop} {Q':Exit→Act→World→Prop} (hQ:∀ a w,Q a w→Q' .normal a w)
  (hlow:∀ j o,ops[j]?=some o→∀ e∈o.after,Region.binds .any e=true→e.on < j)
  (hpair:∀ i j,i < j→j < ops.size→Anc ops i j∨∀ x y,ops[i]?=some x→ops[j]?=some y→Apart ops x y∧(flo x=true∨flo y=true)) :
  ∀ (n:Nat) (L:List (Bool × Nat)) (listed:Array Bool) (a:Act) (w:World),L.length=n→Left flo ops listed L→S w→wpG P ops S Q L a w→wpAny P .any ops Q' n listed a w
 |0,L,listed,a,w,hn,hL,_,h=>by
  have:L=[]:=List.eq_nil_of_length_eq_zero hn
  subst this
  refine⟨?_,hQ _ _ h⟩
  refine List.eq_nil_iff_forall_not_mem.2 fun j hj=>?_
  obtain⟨hu,o,ho,_⟩:=mem_ready.1 hj
  obtain⟨f,hf⟩:=hL.all j (Array.getElem?_eq_some_iff.1 ho).1 hu
  cases hf
 |n+1,L,listed,a,w,hn,hL,hS,h=>by
  refine⟨fun h0=>?_,fun i hi=>?_⟩
  ·exfalso
   match L,hn with
   |(f,i) :: r,_=>
    obtain⟨h1,h2,_⟩:=hL.mem f i (List.mem_cons_self ..)
    have hi:i∈Region.ready .any ops listed:=by
     refine mem_ready.2 ⟨h2,ops[i],Array.getElem?_eq_getElem h1,fun e he hb=>?_⟩
     have hlt:=hlow i _ (Array.getElem?_eq_getElem h1) e he hb
     cases hl:listed.getD e.on false with
     |true=>rfl
     |false=>
      exfalso
      have hlt':e.on < ops.size:=by omega
      have:listed.getD e.on true=false:=by
       have hs:e.on < listed.size:=by rw[hL.size];exact hlt'
       simp[Array.getD_eq_getD_getElem?,hs] at hl ⊢;exact hl
      obtain⟨g,hg⟩:=hL.all e.on hlt' this
      rcases List.mem_cons.1 hg with hg|hg
      ·injection hg with _ hg;omega
      ·have:=(List.pairwise_cons.1 hL.sorted).1 _ hg;simp only at this;omega
    rw[h0] at hi;cases hi
  ·obtain⟨hu,o,ho,hdep⟩:=mem_ready.1 hi
   have hlt:=(Array.getElem?_eq_some_iff.1 ho).1
   obtain⟨f,hf⟩:=hL.all i hlt hu
   have hfo:=(hL.mem f i hf).2.2 o ho
   obtain⟨pre,post,rfl⟩:=List.append_of_mem hf
   have hdeps:Deps ops listed i:=fun o' ho'=>by rw[ho] at ho';injection ho' with ho';subst ho';exact hdep
   have hsort:=List.pairwise_append.1 hL.sorted
   have hpre:∀ p∈pre,∀ op,ops[p.2]?=some op→Apart ops op o∧(flo op=true∨flo o=true):=by
    intro p hp op hop
    have hpi:p.2 < i:=hsort.2.2 p hp (f,i) (List.mem_cons_self ..)
    rcases hpair p.2 i hpi hlt with hanc|hap
    ·exfalso
     have h1:=anc_listed hL.closed hanc hdeps
     have h2:=(hL.mem p.1 p.2 (by simp[hp])).2.1
     have hs:p.2 < listed.size:=by rw[hL.size];omega
     simp[Array.getD_eq_getD_getElem?,hs] at h1 h2
     rw[h1] at h2;cases h2
    ·exact hap op o hop ho
   have hL':Left flo ops (listed.setIfInBounds i true) (pre ++ post):=by
    refine⟨by simp[hL.size],fun g k hk=>?_,fun k hk hku=>?_,?_,fun j hj=>?_⟩
    ·have hk':(g,k)∈pre ++ (f,i) :: post:=by rcases List.mem_append.1 hk with h|h<;>simp[h]
     obtain⟨h1,h2,h3⟩:=hL.mem g k hk'
     have hne:i≠k:=by
      rintro rfl
      rcases List.mem_append.1 hk with h|h
      ·have:=hsort.2.2 _ h (f,i) (List.mem_cons_self ..);simp only at this;omega
      ·have:=(List.pairwise_cons.1 hsort.2.1).1 _ h;simp only at this;omega
     exact⟨h1,by rw[getD_set_ne true hne];exact h2,h3⟩
    ·have hne:i≠k:=by
      rintro rfl
      have hs:i < listed.size:=by rw[hL.size];exact hk
      simp[Array.getD_eq_getD_getElem?,hs] at hku
     rw[getD_set_ne true hne] at hku
     obtain⟨g,hg⟩:=hL.all k hk hku
     refine⟨g,?_⟩
     rcases List.mem_append.1 hg with h|h
     ·simp[h]
     ·rcases List.mem_cons.1 h with h|h
      ·injection h with _ h;exact absurd h.symm hne
      ·simp[h]
    ·refine List.pairwise_append.2 ⟨hsort.1,(List.pairwise_cons.1 hsort.2.1).2,fun x hx y hy=>hsort.2.2 x hx y (List.mem_cons_of_mem _ hy)⟩
    ·intro o' ho' e he hb
     by_cases hji:i=j
     ·subst hji;exact getD_set_true (hdeps o' ho' e he hb)
     ·rw[getD_set_ne false hji] at hj
      exact getD_set_true (hL.closed j hj o' ho' e he hb)
   have hlen:(pre ++ post).length=n:=by simp at hn ⊢;omega
   have ih:=fun a w=>wpAny_of_wpG (flo:=flo) (Q:=Q) hQ hlow hpair n (pre ++ post) (listed.setIfInBounds i true) a w hlen hL'
   unfold wpOp
   simp only[ho]
   cases f with
   |true=>
    have h1:=hoistF ho post pre a w (fun p hp op hop=>(hpre p hp op hop).1) hS h
    split
    ·rename_i hw;rw[if_pos hw] at h1
     obtain⟨v,hv,h2⟩:=h1
     obtain⟨u,hu1,hu2⟩:=hv w hS
     refine .inl ?_
     unfold Oper.wp
     rw[hu1]
     show wpAny _ _ _ _ _ _ (a.put o.dst u) w
     rw[put_eq (o:=o) hu2]
     exact ih _ _ hS h2
    ·rename_i hw;rw[if_neg hw] at h1;exact ih _ _ hS h1
   |false=>
    have h1:=hoistC ho post pre a w (fun p hp=>⟨?_,fun op hop=>(hpre p hp op hop).1⟩) h
    ·split
     ·rename_i hw;rw[if_pos hw] at h1
      refine .inl ?_
      have h2:=Oper.wp_mono (K':=wpAny P .any ops Q' n (listed.setIfInBounds i true)) (fun a' w' hh=>ih a' w' hh.1 hh.2) h1
      unfold Oper.wp at h2 ⊢
      generalize (execOp a.eval o).run P w=r at *
      cases r with
      |ok nx w'=>
       cases nx<;>simp only[Oper.upon] at h2 ⊢<;>first
        |exact h2
        |(refine Calls.mono h2 fun e w'' he=>?_;cases e with|returned u=>exact he|panicked c=>exact he.elim|outgrown=>(obtain⟨_,_,he⟩:=he;exact he.elim))
      |halt x w'=>cases x<;>simp only[Oper.upon] at h2 ⊢;exact h2.elim
     ·rename_i hw;rw[if_neg hw] at h1;exact ih _ _ hS h1
    ·have hp2:=hL.mem p.1 p.2 (by simp[hp])
     have h3:=hpre p hp ops[p.2] (Array.getElem?_eq_getElem hp2.1)
     rcases h3.2 with h4|h4
     ·rw[←hp2.2.2 _ (Array.getElem?_eq_getElem hp2.1)];exact h4
     ·rw[hfo] at h4;cases h4
theorem flags_spec (flo:Oper→Bool):∀ (l:List Oper) (k:Nat),(flags flo k l).length=l.length∧(∀ f i,(f,i)∈flags flo k l→k≤i∧i < k+l.length∧∀ o,l[i-k]?=some o→flo o=f)∧
  (∀ i,k≤i→i < k+l.length→∃ f,(f,i)∈flags flo k l)∧(flags flo k l).Pairwise fun x y=>x.2 < y.2
 |[],k=>⟨rfl,(fun f i h=>by cases h),(fun i h1 h2=>by simp at h2;omega),List.Pairwise.nil⟩
 |o :: r,k=>by
  obtain⟨h1,h2,h3,h4⟩:=flags_spec flo r (k+1)
  refine⟨by simp[flags,h1],fun f i h=>?_,fun i hi1 hi2=>?_,?_⟩
  ·rcases List.mem_cons.1 h with h|h
   ·injection h with hf hi;subst hf;subst hi
    exact⟨Nat.le_refl _,by simp,fun o' ho'=>by simp at ho';rw[ho']⟩
   ·obtain⟨a1,a2,a3⟩:=h2 f i h
    refine⟨by omega,by simp;omega,fun o' ho'=>a3 o' ?_⟩
    rw[show i-k=(i-(k+1))+1 from by omega] at ho'
    simpa using ho'
  ·by_cases he:i=k
   ·subst he;exact⟨_,List.mem_cons_self ..⟩
   ·obtain⟨f,hf⟩:=h3 i (by omega) (by simp at hi2;omega)
    exact⟨f,List.mem_cons_of_mem _ hf⟩
  ·refine List.pairwise_cons.2 ⟨fun x hx=>?_,h4⟩
   have:=(h2 x.1 x.2 hx).1
   show k < x.2
   omega
theorem wp_region_G {id:Nat} {Q:Exit→Act→World→Prop} {a:Act} {w:World} {l:List Oper} (flo:Oper→Bool) (S:World→Prop) (hm:P.follows .mixedOrders=true) (hB:chkG flo l=true)
  (hS:S { w with drawn:=w.drawn+1 }) (h:wpL P l.toArray flo S (fun a' w'=>Q .normal a' w') l a { w with drawn:=w.drawn+1 }):(Code.region id l.toArray true).wp P Q a w:=by
 simp only[chkG,Bool.and_eq_true] at hB
 obtain⟨⟨hsel,hlow⟩,hp⟩:=hB
 have hsel':=Region.noSelect_spec hsel
 obtain⟨f1,f2,f3,f4⟩:=flags_spec flo l 0
 have hG:=wpG_of_wpL (P:=P) (ops:=l.toArray) (S:=S) l 0 a _ (fun j=>by simp) h
 refine wp_region_any hm ?_
 have hsz:l.toArray.size=(flags flo 0 l).length:=by simp[f1]
 rw[hsz]
 refine wpAny_of_wpG (S:=S) (P:=P) (Q:=fun a' w'=>Q .normal a' w') (flo:=flo) (fun _ _ h=>h) ?_ ?_ _ (flags flo 0 l) _ a _ rfl ?_ hS hG
 ·intro j o ho e he hb
  have hl:l[j]?=some o:=by simpa using ho
  have hm:=List.all_eq_true.1 hlow (o,j) (by rw[List.mem_zipIdx_iff_getElem?];exact hl)
  have:=Array.all_eq_true_iff_forall_mem.1 hm e he
  simpa[hb] using this
 ·intro i j hij hj
  have hj':j < l.length:=by simpa using hj
  have h1:=List.all_eq_true.1 (List.all_eq_true.1 hp j (List.mem_range.2 hj')) i (List.mem_range.2 hij)
  unfold pairOk at h1
  rcases Bool.or_eq_true _ _ ▸ h1 with h1|h1
  ·exact .inl (masksFrom_spec (ops:=l.toArray) l #[] (fun j=>by simp) (by simp) i j h1)
  ·refine .inr fun x y hx hy=>?_
   simp only[hx,hy,Bool.and_eq_true,Bool.or_eq_true] at h1
   obtain⟨s1,s2,s3⟩:=Oper.apart_spec h1.1
   exact⟨⟨s1,s2,s3,fun cs b=>hsel' i x cs b hx,fun cs b=>hsel' j y cs b hy⟩,h1.2⟩
 ·refine⟨by simp[f1],fun f i hfi=>?_,fun i hi _=>?_,f4,fun j hj=>?_⟩
  ·obtain⟨b1,b2,b3⟩:=f2 f i hfi
   refine⟨by simpa using b2,?_,fun o ho=>b3 o (by simpa using ho)⟩
   have:i < (flags flo 0 l).length:=by rw[f1];omega
   simp[this]
  ·exact f3 i (Nat.zero_le _) (by simpa using hi)
  ·exfalso
   rw[getD_replicate_false] at hj;cases hj
section
variable {flo:Oper→Bool} {Q:Act→World→Prop} {a:Act} {w:World} {o:Oper} {r:List Oper}
theorem wpL_nil (h:Q a w):wpL P ops flo S Q [] a w:=h
theorem wpL_float {d:Nat} (v:Value) (hw:Region.wanted o (yielded ops a.tmps)=true) (hf:flo o=true) (hn:nocall o=true) (hd:o.dst=some d)
  (h:∀ w,S w→∀ K:Act→World→Prop,(∀ a' w',a'.tmps.getD d undef=v→w'=w→K a' w')→o.wp P a w K noExit)
  (hr:wpL P ops flo S Q r (a.put o.dst v) w):wpL P ops flo S Q (o :: r) a w:=by
 simp only[wpL,hw,hf,if_true]
 refine⟨v,fun w hw=>?_,hr⟩
 have h1:=h w hw (fun a' w'=>a'.tmps.getD d undef=v∧w'=w) (fun _ _ h1 h2=>⟨h1,h2⟩)
 unfold Oper.wp at h1
 cases hr:(execOp a.eval o).run P w with
 |ok n w'=>
  obtain⟨u,rfl⟩:=value_of_nocall hn hr
  rw[hr] at h1
  obtain⟨h2,rfl⟩:=h1
  refine⟨u,rfl,fun d' hd' hl=>?_⟩
  rw[hd] at hd'
  injection hd' with hd'
  subst hd'
  rw[hd] at h2
  simpa[Act.put,hl] using h2
 |halt x w'=>
  rw[hr] at h1
  cases x<;>simp only[Oper.upon] at h1
  exact h1.elim
def Shows (P:Program) (S:World→Prop) (o:Oper) (a:Act) (d:Nat) (v:Value):Prop:=
 ∀ w,S w→∀ K:Act→World→Prop,(∀ a' w',a'.tmps.getD d undef=v→w'=w→K a' w')→o.wp P a w K noExit
end
theorem eval_tmp (l:List Value) (ds:List Deferred) (t:Nat):(Act.mk l.toArray ds).eval (.tmp t)=l.getD t undef:=by simp[Act.eval]
theorem eval_const (a:Act) (v:Value):a.eval (.const v)=v:=rfl
theorem put_some (l:List Value) (ds:List Deferred) (d:Nat) (v:Value):(Act.mk l.toArray ds).put (some d) v=⟨(l.set d v).toArray,ds⟩:=by simp[Act.put]
theorem arr_getD (l:List Value) (d:Nat):l.toArray.getD d undef=l.getD d undef:=by simp
theorem put_none (a:Act) (v:Value):a.put none v=a:=rfl
def One (P:Program) (ops:Array Oper) (flo:Oper→Bool) (S:World→Prop) (R:Act→World→Prop) (o:Oper) (a:Act) (w:World):Prop:=
 if Region.wanted o (yielded ops a.tmps) then
  if flo o then ∃ v,Obl P S o v a∧R (a.put o.dst v) w
  else o.wp P a w (fun a' w'=>S w'∧R a' w') noExit
 else R (a.put o.dst undef) w
section
variable {flo:Oper→Bool} {Q R:Act→World→Prop} {a a':Act} {w:World} {o:Oper} {r:List Oper}
theorem step (h:∀ R:Act→World→Prop,(∀ a w,wpL P ops flo S Q r a w→R a w)→One P ops flo S R o a w):wpL P ops flo S Q (o :: r) a w:=h _ fun _ _ h=>h
theorem at_ (e:a=a') (h:R a' w):R a w:=e ▸ h
theorem one_skip (hw:Region.wanted o (yielded ops a.tmps)=false) (e:a.put o.dst undef=a') (h:R a' w):One P ops flo S R o a w:=by
 simp only[One,hw,Bool.false_eq_true,if_false];exact e ▸ h
theorem one_move {x:Operand} {v:Value} (hw:Region.wanted o (yielded ops a.tmps)=true) (hf:flo o=true) (ho:o.op=.move x∨o.op=.assign x) (hv:a.eval x=v) (e:a.put o.dst v=a') (h:R a' w):One P ops flo S R o a w:=by
 subst hv;subst e
 simp only[One,hw,hf,if_true]
 refine⟨_,fun w hw=>⟨_,?_,fun _ _ _=>rfl⟩,h⟩
 rcases ho with ho|ho<;>simp[execOp,ho]
theorem one_float {d:Nat} (hw:Region.wanted o (yielded ops a.tmps)=true) (hf:flo o=true) (hn:nocall o=true) (hd:o.dst=some d)
  (h:∃ v a',Shows P S o a d v∧a.put (some d) v=a'∧R a' w):One P ops flo S R o a w:=by
 obtain⟨v,a',h1,rfl,h2⟩:=h
 have:=wpL_float (r:=[]) (Q:=R) (w:=w) v hw hf hn hd h1 (hd ▸ h2)
 simpa only[wpL,One] using this
theorem one_chain (hw:Region.wanted o (yielded ops a.tmps)=true) (hf:flo o=false)
  (h:∀ K:Act→World→Prop,(∀ a' w',(S w'∧R a' w')→K a' w')→o.wp P a w K noExit):One P ops flo S R o a w:=by
 simp only[One,hw,hf,if_true,Bool.false_eq_true,if_false]
 exact h _ fun _ _ h=>h
end
def fW (o:Oper):Bool:=match o.op with
 |.move _|.assign _|.pick ..|.build ..|.binOp ..|.unOp ..|.convert ..|.slice ..|.fieldAddr ..|.field ..|.indexAddr ..|.index ..|.extract ..=>true
 |.call { callee:=.builtin .len,.. }|.call { callee:=.builtin .cap,.. }|.call { callee:=.builtin .min,.. }|.call { callee:=.builtin .max,.. }=>true
 |_=>false
def fL (o:Oper):Bool:=match o.op with
 |.load ..=>true
 |_=>fW o
theorem dec_t {p:Prop} [Decidable p] (h:p):Value.bool (decide p)=Value.bool true:=by rw[decide_eq_true h]
theorem dec_f {p:Prop} [Decidable p] (h:¬ p):Value.bool (decide p)=Value.bool false:=by rw[decide_eq_false h]
theorem beq_t {a b:Int} (h:a=b):Value.bool (a == b)=Value.bool true:=by rw[beq_iff_eq.2 h]
theorem beq_f {a b:Int} (h:a≠b):Value.bool (a == b)=Value.bool false:=by rw[beq_eq_false_iff_ne.2 h]
theorem bne_t {a b:Int} (h:a≠b):Value.bool (a != b)=Value.bool true:=by rw[bne_iff_ne.2 h]
theorem bne_f {a b:Int} (h:a=b):Value.bool (a != b)=Value.bool false:=by subst h;simp
def Veil (p:Prop):Prop:=p
theorem Veil.out {p:Prop} (h:Veil p):p:=h
theorem region {id:Nat} {Q:Exit→Act→World→Prop} {a:Act} {w:World} {l:List Oper} (flo:Oper→Bool) (S:World→Prop) (hm:P.follows .mixedOrders=true) (hB:chkG flo l=true)
  (hS:S w.drew) (h:∀ OPS:Array Oper,Veil (OPS=l.toArray)→∀ R:Act→World→Prop,(∀ a' w',S w'→Q .normal a' w'→R a' w')→wpL P OPS flo S R l a w.drew):(Code.region id l.toArray true).wp P Q a w:=by
 have key:∀ (r:List Oper) (a:Act) (w:World),S w→wpL P l.toArray flo S (fun a' w'=>S w'→Q .normal a' w') r a w→wpL P l.toArray flo S (fun a' w'=>Q .normal a' w') r a w:=by
  intro r
  induction r with
  |nil=>intro a w hs h;exact h hs
  |cons o r ih=>
   intro a w hs h
   simp only[wpL] at h ⊢
   split
   ·rename_i hw;rw[if_pos hw] at h
    split
    ·rename_i hf;rw[if_pos hf] at h;obtain⟨v,h1,h2⟩:=h;exact⟨v,h1,ih _ _ hs h2⟩
    ·rename_i hf;rw[if_neg hf] at h;exact Oper.wp_mono (fun a' w' hh=>⟨hh.1,ih _ _ hh.1 hh.2⟩) h
   ·rename_i hw;rw[if_neg hw] at h;exact ih _ _ hs h
 exact wp_region_G flo S hm hB hS (h _ rfl _ fun _ _ _ h=>h)
end
end Go.RX
namespace Go
open Go.RX
theorem zA (l:List Value) (ds:List Deferred) (d:Nat) (v:Value):(Act.mk l.toArray ds).put (some d) v=⟨(l.set d v).toArray,ds⟩:=RX.put_some l ds d v
theorem zB (a:Act) (v:Value):a.put none v=a:=rfl
theorem zC {α:Type} (x y:α) (l:List α):(x :: l).set 0 y=y :: l:=rfl
theorem zD {α:Type} (x y:α) (l:List α) (n:Nat):(x :: l).set (n+1) y=x :: l.set n y:=rfl
theorem zE (l:List Value) (ds:List Deferred) (t:Nat):(Act.mk l.toArray ds).eval (.tmp t)=l.getD t undef:=RX.eval_tmp l ds t
theorem zF (a:Act) (v:Value):a.eval (.const v)=v:=rfl
theorem zG {α:Type} (x d:α) (l:List α):(x :: l).getD 0 d=x:=rfl
theorem zH {α:Type} (x d:α) (l:List α) (n:Nat):(x :: l).getD (n+1) d=l.getD n d:=rfl
abbrev zaX:=@RX.one_skip
abbrev zbX:=@RX.one_move
abbrev zdX:=@RX.one_float
abbrev zeX:=@RX.step
abbrev zgX:=@RX.one_chain
abbrev zf:=@RX.dec_t
abbrev zg:=@RX.dec_f
abbrev zh:=@RX.beq_t
abbrev zi:=@RX.beq_f
abbrev zj:=@RX.bne_t
abbrev zk:=@RX.bne_f
theorem zl (l:List Value) (d:Nat):l.toArray.getD d undef=l.getD d undef:=RX.arr_getD l d
end Go
namespace Go.RX
open Go.RowKit
structure ElemOf (P:Program) (t e:TypeId) (z:Value) (size bytes:Nat):Prop where
 ht:P.underlying t=some (.slice e)
 hi:(P.info? e).map (fun i=>(i.zero,i.size,i.bytes))=some (some z,size,bytes)
 hz:z.cells.size=size
 pos:0 < size
theorem wp_app {P:Program} {o:Oper} {a:Act} {w:World} {K:Act→World→Prop} {Q:Exit→Act→World→Prop} {t e:TypeId} {z:Value} {size bytes:Nat} (E:ElemOf P t e z size bytes) (s x:Operand)
  (ho:o.op=.call { callee:=.builtin .append,args:=#[s,x],argTypes:=#[t,t] }) (base:Nat)
  (v:Value) (n:Nat) (xs:List Value) (hown:w.ownsRow base e size v n xs) (hs:a.eval s=v)
  (B:Nat) (cs:Array Value) (m:Nat) (hx:a.eval x=.slice (some ⟨B,0,none⟩) m m) (hB:w.heap[B]?=some (.cells cs e (0,0))) (hc:cs.size=m*size) (h1:∀ u∈cs.toList,u.oneCell'=true)
  (hbytes:(n+m)*bytes≤140737488355328) (hn:n+m≤140737488355328) (hbase:base≤w.heap.size)
  (h:∀ v' w',w'.ownsRow base e size v' (n+m) (xs ++ cs.toList)→Below base w w'→w.grownBy w' v.ownBlock→(v'.ownBlock=v.ownBlock∨v'.ownBlock=some w.heap.size)→K (a.put o.dst v') w'):o.wp P a w K Q:=by
 obtain⟨i0,hi,hz,hsize,hby⟩:=info_parts E.hi
 subst hs
 obtain⟨v',w',hrun,h2,h3,_,h5⟩:=run_append_own_at (P:=P) w base t o.type e i0 z size bytes E.ht hi hz hsize hby E.hz E.pos _ n xs hown ⟨B,0,none⟩ m m cs.toList (by simpa using hc) (World.news_of_block hB) h1 (by unfold maxLen;omega) hbytes hbase
 unfold Oper.wp execOp
 simp only[ho,resolve,invoke,builtin,Sem.run_bind,Sem.run_pure,Result.andThen_ok,List.map_toArray,List.map_cons,List.map_nil,hx,hrun]
 exact h v' w' h2 ((Below.refl _ _).grown h3 hbase (fun k hk=>(hown.lt k hk).1)) h3 h5
theorem cell_alloc (w:World) (c:Array Value) (t:TypeId) (f:Nat × Nat) (b j:Nat):(w.alloc (.cells c t f)).cell? ⟨b,j,none⟩=if b=w.heap.size then c[j]? else w.cell? ⟨b,j,none⟩:=by
 by_cases h:b=w.heap.size
 ·subst h
  rw[if_pos rfl]
  simp only[World.cell?,heap_alloc_new]
  rfl
 ·rw[if_neg h]
  rcases Nat.lt_or_ge b w.heap.size with hl|hl
  ·exact World.cell?_alloc_lt w _ _ hl
  ·have h1:(w.alloc (.cells c t f)).heap[b]?=none:=Array.getElem?_eq_none (by simp;omega)
   have h2:w.heap[b]?=none:=Array.getElem?_eq_none hl
   simp[World.cell?,h1,h2]
theorem keep {w w':World} {p:Addr} {v:Value} (hb:Below w.heap.size w w') (h:w.cell? p=some v):w'.cell? p=some v:=(hb.cell (zM w p h)).trans h
theorem frozen_alloc (w:World) (c:Array Value) (t:TypeId) (b j:Nat):(w.alloc (.cells c t)).frozen? ⟨b,j,none⟩=if b=w.heap.size then false else w.frozen? ⟨b,j,none⟩:=by
 by_cases h:b=w.heap.size
 ·subst h
  rw[if_pos rfl]
  simp only[World.frozen?,heap_alloc_new]
  simp
 ·rw[if_neg h]
  refine World.frozen?_of_block ?_
  rcases Nat.lt_or_ge b w.heap.size with hl|hl
  ·exact Below.heap_alloc w _ _ hl
  ·have h1:(w.alloc (.cells c t)).heap[b]?=none:=Array.getElem?_eq_none (by simp;omega)
   have h2:w.heap[b]?=none:=Array.getElem?_eq_none hl
   show (w.alloc (.cells c t)).heap[b]?=w.heap[b]?
   rw[h1,h2]
theorem frozen_drew (w:World) (p:Addr):w.drew.frozen? p=w.frozen? p:=rfl
theorem cell_drew (w:World) (p:Addr):w.drew.cell? p=w.cell? p:=rfl
end Go.RX
namespace Go
theorem zJ (w:World) (c:Array Value) (t:TypeId) (f:Nat × Nat) (b j:Nat):(w.alloc (.cells c t f)).cell? ⟨b,j,none⟩=if b=w.heap.size then c[j]? else w.cell? ⟨b,j,none⟩:=RX.cell_alloc w c t f b j
theorem zO (w:World) (p:Addr):w.drew.cell? p=w.cell? p:=rfl
abbrev zP:=@RX.keep
end Go
namespace Go.RX
open Go.RowKit
def fN (o:Oper):Bool:=match o.op with
 |.nilCheck ..=>true
 |_=>fL o
def fM (o:Oper):Bool:=match o.op with
 |.nilCheck ..=>true
 |_=>fW o
theorem one_nil {P:Program} {ops:Array Oper} {S:World→Prop} {flo:Oper→Bool} {R:Act→World→Prop} {a a':Act} {w:World} {o:Oper} {x:Operand} {p:Addr} (hw:Region.wanted o (yielded ops a.tmps)=true) (hf:flo o=true) (ho:o.op=.nilCheck x) (hv:a.eval x=.pointer (some p)) (e:a.put o.dst (.pointer (some p))=a') (h:R a' w):One P ops flo S R o a w:=by
 subst e
 simp only[One,hw,hf,if_true]
 refine⟨_,fun w hw=>⟨_,?_,fun _ _ _=>rfl⟩,h⟩
 simp[execOp,ho,hv]
end Go.RX
namespace Go
abbrev zcX:=@RX.one_nil
end Go
namespace Go.RX
open Go.RowKit
def valueOp (o:Oper):Bool:=nocall o || match o.op with
 |.buildSlice ..|.box ..|.makeSlice ..|.alloc ..=>true
 |.call { callee:=.builtin .append,.. }=>true
 |_=>false
theorem value_of_valueOp {P:Program} {o:Oper} (hn:valueOp o=true) {ρ:Operand→Value} {w w':World} {n:Next} (h:(execOp ρ o).run P w=.ok n w'):∃ u,n=.value u:=by
 unfold valueOp at hn
 rw[Bool.or_eq_true] at hn
 rcases hn with hn|hn
 ·exact value_of_nocall hn h
 obtain⟨dst,op,type,pos,after,guard⟩:=o
 have key:∀ {α:Type} (s:Sem α) (f:α→Value),(s >>= fun v=>pure (Next.value (f v))).run P w=.ok n w'→∃ u,n=.value u:=by
  intro α s f hs
  rw[Sem.run_bind] at hs
  cases hr:s.run P w with
  |ok v w1=>rw[hr] at hs;simp only[Result.andThen_ok,Sem.run_pure] at hs;injection hs with h1;exact⟨_,h1.symm⟩
  |halt x w1=>rw[hr] at hs;simp[Result.andThen] at hs
 cases op<;>simp only[Bool.false_eq_true] at hn<;>simp only[execOp] at h
 case call c=>
  obtain⟨callee,args,argTypes⟩:=c
  cases callee with
  |builtin b=>cases b<;>simp only[Bool.false_eq_true] at hn<;>exact key _ id h
  |value f=>simp at hn
  |invoke r m=>simp at hn
 all_goals exact key _ id h
theorem Apart.symm {ops:Array Oper} {x y:Oper} (h:Apart ops x y):Apart ops y x:=⟨h.three,fun d hd hx=>h.two d hx hd,h.one,h.sely,h.selx⟩
structure LeftT (flo:Oper→Bool) (ops:Array Oper) (listed:Array Bool) (L:List (Bool × Nat)):Prop where
 mem:∀ f i,(f,i)∈L→i < ops.size∧listed.getD i true=false∧∀ o,ops[i]?=some o→flo o=f
 all:∀ i,i < ops.size→listed.getD i true=false→∃ f,(f,i)∈L
 nodup:L.Pairwise fun x y=>x.2≠y.2
 topo:L.Pairwise fun x y=>¬ Anc ops y.2 x.2
def chs (L:List (Bool × Nat)):List Nat:=(L.filter (fun x=>!x.1)).map (·.2)
def rid (i:Nat) (L:List (Bool × Nat)):List (Bool × Nat):=L.filter (fun x=>x.2 != i)
theorem rid_app {i:Nat} {f:Bool} {pre post:List (Bool × Nat)} (h:(pre ++ (f,i) :: post).Pairwise fun x y=>x.2≠y.2):rid i (pre ++ (f,i) :: post)=pre ++ post:=by
 have h1:=List.pairwise_append.1 h
 have h2:∀ x∈pre,x.2≠i:=fun x hx=>h1.2.2 x hx (f,i) (List.mem_cons_self ..)
 have h3:∀ x∈post,x.2≠i:=fun x hx=>Ne.symm ((List.pairwise_cons.1 h1.2.1).1 x hx)
 unfold rid
 rw[List.filter_append,List.filter_cons_of_neg (by simp),List.filter_eq_self.2 (fun x hx=>by simpa using h2 x hx),List.filter_eq_self.2 (fun x hx=>by simpa using h3 x hx)]
def cov (bit:Nat→Nat→Bool):Nat→List Nat→List (List Nat)→Bool
 |0,rem,_=>rem.isEmpty
 |m+1,rem,πs=>rem.all fun j=>rem.any (fun i=>i != j && bit i j) || (!((πs.filterMap fun π=>if π.head?=some j then some π.tail else none).isEmpty) && cov bit m (rem.filter (· != j)) (πs.filterMap fun π=>if π.head?=some j then some π.tail else none))
section
variable {P:Program} {ops:Array Oper} {S:World→Prop}
theorem LeftT.rid {flo:Oper→Bool} {listed:Array Bool} {pre post:List (Bool × Nat)} {f:Bool} {i:Nat} (hsz:listed.size=ops.size) (hL:LeftT flo ops listed (pre ++ (f,i) :: post)):LeftT flo ops (listed.setIfInBounds i true) (pre ++ post):=by
 have hs:=List.pairwise_append.1 hL.nodup
 have ht:=List.pairwise_append.1 hL.topo
 refine⟨fun g k hk=>?_,fun k hk hku=>?_,?_,?_⟩
 ·have hk':(g,k)∈pre ++ (f,i) :: post:=by rcases List.mem_append.1 hk with h|h<;>simp[h]
  obtain⟨h1,h2,h3⟩:=hL.mem g k hk'
  have hne:i≠k:=by
   rintro rfl
   rcases List.mem_append.1 hk with h|h
   ·exact hs.2.2 _ h (f,i) (List.mem_cons_self ..) rfl
   ·exact (List.pairwise_cons.1 hs.2.1).1 _ h rfl
  exact⟨h1,by rw[getD_set_ne true hne];exact h2,h3⟩
 ·have hne:i≠k:=by
   rintro rfl
   have hs:i < listed.size:=by rw[hsz];exact hk
   simp[Array.getD_eq_getD_getElem?,hs] at hku
  rw[getD_set_ne true hne] at hku
  obtain⟨g,hg⟩:=hL.all k hk hku
  refine⟨g,?_⟩
  rcases List.mem_append.1 hg with h|h
  ·simp[h]
  ·rcases List.mem_cons.1 h with h|h
   ·injection h with _ h;exact absurd h.symm hne
   ·simp[h]
 ·exact List.pairwise_append.2 ⟨hs.1,(List.pairwise_cons.1 hs.2.1).2,fun x hx y hy=>hs.2.2 x hx y (List.mem_cons_of_mem _ hy)⟩
 ·exact List.pairwise_append.2 ⟨ht.1,(List.pairwise_cons.1 ht.2.1).2,fun x hx y hy=>ht.2.2 x hx y (List.mem_cons_of_mem _ hy)⟩
theorem chs_float {pre post:List (Bool × Nat)} {i:Nat}:chs (pre ++ (true,i) :: post)=chs (pre ++ post):=by
 simp[chs,List.filter_append]
theorem chs_head {pre post:List (Bool × Nat)} {i:Nat} {π:List Nat} (hpre:∀ p∈pre,p.1=true):chs (pre ++ (false,i) :: post)=i :: chs (pre ++ post):=by
 have h:pre.filter (fun x=>!x.1)=[]:=List.filter_eq_nil_iff.2 fun x hx=>by simp[hpre x hx]
 simp[chs,List.filter_append,h]
theorem split_head:∀ (L:List (Bool × Nat)) (j:Nat),(chs L).head?=some j→∃ pre post,L=pre ++ (false,j) :: post∧∀ p∈pre,p.1=true
 |[],j,h=>by simp[chs] at h
 |(true,k) :: L,j,h=>by
  obtain⟨pre,post,rfl,h2⟩:=split_head L j (by simpa[chs] using h)
  exact⟨(true,k) :: pre,post,rfl,fun p hp=>by rcases List.mem_cons.1 hp with rfl|hp;rfl;exact h2 p hp⟩
 |(false,k) :: L,j,h=>by
  have:k=j:=by simpa[chs] using h
  subst this
  exact⟨[],L,rfl,fun p hp=>by cases hp⟩
theorem wpAny_of_fam {flo:Oper→Bool} {Q:Act→World→Prop} {Q':Exit→Act→World→Prop} (hQ:∀ a w,Q a w→Q' .normal a w) {bit:Nat→Nat→Bool} (hbit:∀ i j,bit i j=true→Anc ops i j)
  (hval:∀ (j:Nat) (o:Oper),ops[j]?=some o→flo o=false→valueOp o=true)
  (hlow:∀ j o,ops[j]?=some o→∀ e∈o.after,Region.binds .any e=true→e.on < j)
  (hpair:∀ i j,i < ops.size→j < ops.size→i≠j→Anc ops i j∨Anc ops j i∨∀ x y,ops[i]?=some x→ops[j]?=some y→(flo x=true∨flo y=true)→Apart ops x y) :
  ∀ (n m:Nat) (F:List (List (Bool × Nat))) (rem:List Nat) (listed:Array Bool) (a:Act) (w:World),F≠[]→listed.size=ops.size→(∀ j,listed.getD j false=true→Deps ops listed j)→
   (∀ L∈F,L.length=n∧LeftT flo ops listed L∧wpG P ops S Q L a w)→(∀ j,j < ops.size→listed.getD j true=false→(∀ o,ops[j]?=some o→flo o=false)→j∈rem)→(∀ j∈rem,listed.getD j true=false∧∀ o,ops[j]?=some o→flo o=false)→cov bit m rem (F.map chs)=true→S w→wpAny P .any ops Q' n listed a w
 |0,m,F,rem,listed,a,w,hF,hsz,hcl,hall,hrem,hrem',hcov,hS=>by
  obtain⟨L,hL⟩:=List.exists_mem_of_ne_nil F hF
  obtain⟨h1,h2,h3⟩:=hall L hL
  obtain rfl:L=[]:=List.eq_nil_of_length_eq_zero h1
  refine⟨?_,hQ _ _ h3⟩
  refine List.eq_nil_iff_forall_not_mem.2 fun j hj=>?_
  obtain⟨hu,o,ho,_⟩:=mem_ready.1 hj
  obtain⟨f,hf⟩:=h2.all j (Array.getElem?_eq_some_iff.1 ho).1 hu
  cases hf
 |n+1,m,F,rem,listed,a,w,hF,hsz,hcl,hall,hrem,hrem',hcov,hS=>by
  refine⟨fun h0=>?_,fun i hi=>?_⟩
  ·exfalso
   obtain⟨L,hLF⟩:=List.exists_mem_of_ne_nil F hF
   obtain⟨hn,hL,_⟩:=hall L hLF
   match L,hn,hL with
   |(f,i) :: r,_,hL=>
    obtain⟨h1,h2,_⟩:=hL.mem f i (List.mem_cons_self ..)
    have hi:i∈Region.ready .any ops listed:=by
     refine mem_ready.2 ⟨h2,ops[i],Array.getElem?_eq_getElem h1,fun e he hb=>?_⟩
     have hlt:=hlow i _ (Array.getElem?_eq_getElem h1) e he hb
     cases hl:listed.getD e.on false with
     |true=>rfl
     |false=>
      exfalso
      have hlt':e.on < ops.size:=by omega
      have:listed.getD e.on true=false:=by
       have hs:e.on < listed.size:=by rw[hsz];exact hlt'
       simp[Array.getD_eq_getD_getElem?,hs] at hl ⊢;exact hl
      obtain⟨g,hg⟩:=hL.all e.on hlt' this
      rcases List.mem_cons.1 hg with hg|hg
      ·injection hg with _ hg;omega
      ·exact (List.pairwise_cons.1 hL.topo).1 _ hg (.edge (Array.getElem?_eq_getElem h1) he hb)
    rw[h0] at hi;cases hi
  ·obtain⟨hu,o,ho,hdep⟩:=mem_ready.1 hi
   have hlt:=(Array.getElem?_eq_some_iff.1 ho).1
   have hdeps:Deps ops listed i:=fun o' ho'=>by rw[ho] at ho';injection ho' with ho';subst ho';exact hdep
   have hcl':∀ j,(listed.setIfInBounds i true).getD j false=true→Deps ops (listed.setIfInBounds i true) j:=by
    intro j hj o' ho' e he hb
    by_cases hji:i=j
    ·subst hji;exact getD_set_true (hdeps o' ho' e he hb)
    ·rw[getD_set_ne false hji] at hj
     exact getD_set_true (hcl j hj o' ho' e he hb)
   have notAnc:∀ k,k < ops.size→listed.getD k true=false→¬ Anc ops k i:=fun k hk hk2 hanc=>by
    have h1:=anc_listed hcl hanc hdeps
    have hs:k < listed.size:=by rw[hsz];exact hk
    simp[Array.getD_eq_getD_getElem?,hs] at h1 hk2
    rw[h1] at hk2;cases hk2
   have hsz':(listed.setIfInBounds i true).size=ops.size:=by simp[hsz]
   have hpre:∀ (pre post:List (Bool × Nat)) (f:Bool),LeftT flo ops listed (pre ++ (f,i) :: post)→∀ p∈pre,(p.1=true∨f=true)→∀ op,ops[p.2]?=some op→Apart ops op o:=by
    intro pre post f hL p hp hfl op hop
    have hm:=hL.mem p.1 p.2 (by simp[hp])
    have hne:=(List.pairwise_append.1 hL.nodup).2.2 p hp (f,i) (List.mem_cons_self ..)
    have htp:=(List.pairwise_append.1 hL.topo).2.2 p hp (f,i) (List.mem_cons_self ..)
    have hfi:=(hL.mem f i (by simp)).2.2 o ho
    rcases hpair p.2 i hm.1 hlt hne with h|h|h
    ·exact (notAnc _ hm.1 hm.2.1 h).elim
    ·exact (htp h).elim
    ·exact h op o hop ho (hfl.imp (fun h=>by rw[hm.2.2 op hop];exact h) (fun h=>by rw[hfi];exact h))
   unfold wpOp
   simp only[ho]
   cases hfo:flo o with
   |true=>
    have hparts:∀ L∈F,∃ pre post,L=pre ++ (true,i) :: post:=fun L hL=>by
     obtain⟨_,h2,_⟩:=hall L hL
     obtain⟨f,hf⟩:=h2.all i hlt hu
     have:=(h2.mem f i hf).2.2 o ho
     rw[hfo] at this;subst this
     exact List.append_of_mem hf
    have hnew:∀ a' w',S w'→(∀ L∈F,wpG P ops S Q (rid i L) a' w')→wpAny P .any ops Q' n (listed.setIfInBounds i true) a' w':=by
     intro a' w' hS' h
     refine wpAny_of_fam hQ hbit hval hlow hpair n m (F.map (rid i)) rem _ a' w' (by simpa using hF) hsz' hcl' ?_ ?_ ?_ ?_ hS'
     ·intro L' hL'
      obtain⟨L,hL,rfl⟩:=List.mem_map.1 hL'
      obtain⟨pre,post,rfl⟩:=hparts L hL
      obtain⟨h1,h2,_⟩:=hall _ hL
      have h4:=h _ hL
      rw[rid_app h2.nodup] at h4 ⊢
      exact⟨by simp at h1 ⊢;omega,h2.rid hsz,h4⟩
     ·intro j hj hju hjf
      have hne:i≠j:=by
       rintro rfl
       have hs:i < listed.size:=by rw[hsz];exact hlt
       simp[Array.getD_eq_getD_getElem?,hs] at hju
      rw[getD_set_ne true hne] at hju
      exact hrem j hj hju hjf
     ·intro j hj
      have hne:i≠j:=by
       rintro rfl
       have:=(hrem' i hj).2 o ho
       rw[hfo] at this;cases this
      rw[getD_set_ne true hne]
      exact hrem' j hj
     ·have:(F.map (rid i)).map chs=F.map chs:=by
       rw[List.map_map]
       refine List.map_congr_left fun L hL=>?_
       obtain⟨pre,post,rfl⟩:=hparts L hL
       obtain⟨h1,h2,_⟩:=hall _ hL
       show chs (rid i _)=_
       rw[rid_app h2.nodup,chs_float]
      rw[this];exact hcov
    split
    ·rename_i hw
     refine .inl ?_
     have hv:∃ u,(execOp a.eval o).run P w=.ok (.value u) w∧∀ L∈F,wpG P ops S Q (rid i L) (a.put o.dst u) w:=by
      obtain⟨L0,hL0⟩:=List.exists_mem_of_ne_nil F hF
      have key:∀ L∈F,∃ v,Obl P S o v a∧wpG P ops S Q (rid i L) (a.put o.dst v) w:=by
       intro L hL
       obtain⟨pre,post,rfl⟩:=hparts L hL
       obtain⟨h1,h2,h3⟩:=hall _ hL
       have h4:=hoistF ho post pre a w (fun p hp op hop=>hpre pre post true h2 p hp (.inr rfl) op hop) hS h3
       rw[if_pos hw] at h4
       rw[rid_app h2.nodup]
       exact h4
      obtain⟨v0,hv0,_⟩:=key L0 hL0
      obtain⟨u,hu1,_⟩:=hv0 w hS
      refine⟨u,hu1,fun L hL=>?_⟩
      obtain⟨v,hv,h⟩:=key L hL
      obtain⟨u',hu1',hu2'⟩:=hv w hS
      rw[hu1] at hu1'
      injection hu1' with e1
      injection e1 with e1
      subst e1
      rw[put_eq (o:=o) hu2']
      exact h
     obtain⟨u,hu1,h⟩:=hv
     unfold Oper.wp
     rw[hu1]
     exact hnew _ _ hS h
    ·rename_i hw
     refine hnew _ _ hS fun L hL=>?_
     obtain⟨pre,post,rfl⟩:=hparts L hL
     obtain⟨h1,h2,h3⟩:=hall _ hL
     have h4:=hoistF ho post pre a w (fun p hp op hop=>hpre pre post true h2 p hp (.inr rfl) op hop) hS h3
     rw[if_neg hw] at h4
     rw[rid_app h2.nodup]
     exact h4
   |false=>
    have hir:i∈rem:=hrem i hlt hu (fun o' ho'=>by rw[ho] at ho';injection ho' with ho';subst ho';exact hfo)
    match m,hcov with
    |0,hcov=>simp[cov] at hcov;subst hcov;cases hir
    |m+1,hcov=>
    simp only[cov,List.all_eq_true] at hcov
    have hci:=hcov i hir
    have hnone:rem.any (fun k=>k != i && bit k i)=false:=by
     rw[Bool.eq_false_iff]
     intro h
     obtain⟨k,hk,hk2⟩:=List.any_eq_true.1 h
     simp only[Bool.and_eq_true] at hk2
     have hku:=(hrem' k hk).1
     have hks:k < ops.size:=by
      by_cases hks:k < ops.size
      ·exact hks
      ·exfalso
       have:listed[k]?=none:=Array.getElem?_eq_none (by omega)
       simp[Array.getD_eq_getD_getElem?,this] at hku
     exact notAnc k hks hku (hbit k i hk2.2)
    rw[hnone,Bool.false_or,Bool.and_eq_true] at hci
    obtain⟨hne0,hcov2⟩:=hci
    have hsplit:∀ L∈F,(chs L).head?=some i→∃ pre post,L=pre ++ (false,i) :: post∧(∀ p∈pre,p.1=true):=fun L _ h=>split_head L i h
    have hts:((F.map chs).filterMap fun π=>if π.head?=some i then some π.tail else none)=((F.filter fun L=>decide ((chs L).head?=some i)).map (rid i)).map chs:=by
     rw[List.map_map]
     have gen:∀ G:List (List (Bool × Nat)),(∀ L∈G,L∈F)→((G.map chs).filterMap fun π=>if π.head?=some i then some π.tail else none)=(G.filter fun L=>decide ((chs L).head?=some i)).map (chs ∘ rid i):=by
      intro G
      induction G with
      |nil=>intro _;rfl
      |cons L G ih=>
       intro hG
       have ih:=ih fun L hL=>hG L (List.mem_cons_of_mem _ hL)
       rw[List.map_cons,List.filterMap_cons,List.filter_cons]
       by_cases hh:(chs L).head?=some i
       ·obtain⟨pre,post,hLe,hp⟩:=hsplit L (hG L (List.mem_cons_self ..)) hh
        have h2:=(hall L (hG L (List.mem_cons_self ..))).2.1
        rw[if_pos hh,if_pos (by simpa using hh),List.map_cons,ih]
        have e:chs (rid i L)=(chs L).tail:=by
         subst hLe
         rw[rid_app h2.nodup,chs_head (π:=[]) hp];rfl
        show (chs L).tail :: _=chs (rid i L) :: _
        rw[e]
       ·rw[if_neg hh,if_neg (by simpa using hh),ih]
     exact gen F fun _ h=>h
    rw[hts] at hne0 hcov2
    have hF':(F.filter fun L=>decide ((chs L).head?=some i))≠[]:=by
     intro h;rw[h] at hne0;simp at hne0
    have hnew:∀ a' w',S w'→(∀ L∈F,(chs L).head?=some i→wpG P ops S Q (rid i L) a' w')→wpAny P .any ops Q' n (listed.setIfInBounds i true) a' w':=by
     intro a' w' hS' h
     refine wpAny_of_fam hQ hbit hval hlow hpair n m ((F.filter fun L=>decide ((chs L).head?=some i)).map (rid i)) (rem.filter (· != i)) _ a' w' (by simpa using hF') hsz' hcl' ?_ ?_ ?_ hcov2 hS'
     ·intro L' hL'
      obtain⟨L,hL,rfl⟩:=List.mem_map.1 hL'
      obtain⟨hLF,hh⟩:=List.mem_filter.1 hL
      have hh':(chs L).head?=some i:=by simpa using hh
      obtain⟨pre,post,rfl,hp⟩:=hsplit L hLF hh'
      obtain⟨h1,h2,_⟩:=hall _ hLF
      have h4:=h _ hLF hh'
      rw[rid_app h2.nodup] at h4 ⊢
      exact⟨by simp at h1 ⊢;omega,h2.rid hsz,h4⟩
     ·intro j hj hju hjf
      have hne:i≠j:=by
       rintro rfl
       have hs:i < listed.size:=by rw[hsz];exact hlt
       simp[Array.getD_eq_getD_getElem?,hs] at hju
      rw[getD_set_ne true hne] at hju
      exact List.mem_filter.2 ⟨hrem j hj hju hjf,by simpa using Ne.symm hne⟩
     ·intro j hj
      obtain⟨hj1,hj2⟩:=List.mem_filter.1 hj
      have hne:i≠j:=by
       rintro rfl;simp at hj2
      rw[getD_set_ne true hne]
      exact hrem' j hj1
    have hone:∀ L∈F,(chs L).head?=some i→if Region.wanted o (yielded ops a.tmps) then o.wp P a w (fun a' w'=>S w'∧wpG P ops S Q (rid i L) a' w') noExit else wpG P ops S Q (rid i L) (a.put o.dst undef) w:=by
     intro L hL hh
     obtain⟨pre,post,rfl,hp⟩:=hsplit L hL hh
     obtain⟨h1,h2,h3⟩:=hall _ hL
     rw[rid_app h2.nodup]
     exact hoistC ho post pre a w (fun p hpp=>⟨hp p hpp,fun op hop=>hpre pre post false h2 p hpp (.inl (hp p hpp)) op hop⟩) h3
    split
    ·rename_i hw
     refine .inl ?_
     obtain⟨L0,hL0⟩:=List.exists_mem_of_ne_nil _ hF'
     obtain⟨hL0F,hh0⟩:=List.mem_filter.1 hL0
     have h0:=hone L0 hL0F (by simpa using hh0)
     have hrest:∀ L∈F,(chs L).head?=some i→o.wp P a w (fun a' w'=>S w'∧wpG P ops S Q (rid i L) a' w') noExit:=fun L hL hh=>by
      have:=hone L hL hh
      rw[if_pos hw] at this;exact this
     rw[if_pos hw] at h0
     unfold Oper.wp at h0 hrest ⊢
     cases hr:(execOp a.eval o).run P w with
     |ok nx w'=>
      obtain⟨u,rfl⟩:=value_of_valueOp (hval i o ho hfo) hr
      rw[hr] at h0
      refine hnew _ _ h0.1 fun L hL hh=>?_
      have:=hrest L hL hh
      rw[hr] at this
      exact this.2
     |halt x w'=>
      rw[hr] at h0
      cases x<;>simp only[Oper.upon] at h0 ⊢
      exact h0.elim
    ·rename_i hw
     refine hnew _ _ hS fun L hL hh=>?_
     have:=hone L hL hh
     rw[if_neg hw] at this
     exact this
def nth (l : List Oper) (i : Nat) : Oper := l.getD i ⟨none, .move (.const undef), 0, "", #[], none⟩
def pick (l:List Oper) (π:List Nat):List Oper:=π.map (nth l)
def flagsAt (flo:Oper→Bool) (l:List Oper) (π:List Nat):List (Bool × Nat):=π.map fun i=>(flo (nth l i),i)
theorem wpG_of_pick {flo:Oper→Bool} {Q:Act→World→Prop} {l:List Oper}:∀ (π:List Nat) (a:Act) (w:World),(∀ i∈π,i < l.length)→wpL P l.toArray flo S Q (pick l π) a w→wpG P l.toArray S Q (flagsAt flo l π) a w
 |[],_,_,_,h=>h
 |i :: π,a,w,hl,h=>by
  have hi:i < l.length:=hl i (List.mem_cons_self ..)
  have h0:l.toArray[i]?=some (nth l i):=by simp[nth,hi]
  have ih:=fun a w=>wpG_of_pick (flo:=flo) (Q:=Q) π a w (fun j hj=>hl j (List.mem_cons_of_mem _ hj))
  simp only[pick,List.map_cons,wpL] at h
  simp only[flagsAt,List.map_cons,wpG,h0]
  split
  ·rename_i hw;rw[if_pos hw] at h
   split
   ·rename_i hf;rw[if_pos hf] at h;obtain⟨v,h1,h2⟩:=h;exact⟨v,h1,ih _ _ h2⟩
   ·rename_i hf;rw[if_neg hf] at h;exact Oper.wp_mono (fun a' w' hh=>⟨hh.1,ih _ _ hh.2⟩) h
  ·rename_i hw;rw[if_neg hw] at h;exact ih _ _ h
def topoOk (l:List Oper):List Nat→List Nat→Bool
 |_,[]=>true
 |done,i :: π=>decide (i < l.length) && !done.contains i && (nth l i).after.all (fun e=>!Region.binds .any e || done.contains e.on) && topoOk l (i :: done) π
def bitOf (l:List Oper) (i j:Nat):Bool:=((masksFrom #[] l).getD j 0).testBit i
def chkF (flo:Oper→Bool) (l:List Oper) (πs:List (List Nat)):Bool:=
 let m:=masksFrom #[] l
 Region.noSelect l.toArray && (l.zipIdx.all fun (o,j)=>o.after.all fun e=>!Region.binds .any e || decide (e.on < j)) &&
  ((List.range l.length).all fun j=>(List.range j).all fun i=>(m.getD j 0).testBit i || ((!flo (nth l i) && !flo (nth l j)) || (nth l i).apart l.toArray (nth l j))) &&
  (l.all fun o=>flo o || valueOp o) && !πs.isEmpty && πs.all (fun π=>π.length == l.length && topoOk l [] π && (List.range l.length).all (fun i=>π.contains i)) &&
  cov (fun i j=>(m.getD j 0).testBit i) l.length ((List.range l.length).filter fun j=>!flo (nth l j)) (πs.map fun π=>chs (flagsAt flo l π))
theorem topo_spec {l:List Oper}:∀ (π done:List Nat),topoOk l done π=true→(∀ j∈done,∀ o,l.toArray[j]?=some o→∀ e∈o.after,Region.binds .any e=true→e.on∈done)→
  (∀ i∈π,i < l.length∧i ∉ done)∧π.Pairwise (fun x y=>x≠y∧¬ Anc l.toArray y x)
 |[],done,_,_=>⟨fun i hi=>(by cases hi),List.Pairwise.nil⟩
 |i :: π,done,h,hcl=>by
  simp only[topoOk,Bool.and_eq_true] at h
  obtain⟨⟨⟨h1,h2⟩,h3⟩,h4⟩:=h
  have hi:i < l.length:=by simpa using h1
  have hnd:i ∉ done:=by simpa using h2
  have hop:∀ o,l.toArray[i]?=some o→o=nth l i:=fun o ho=>by simp[hi] at ho;simp[nth,hi,ho]
  have hdeps:∀ o,l.toArray[i]?=some o→∀ e∈o.after,Region.binds .any e=true→e.on∈done:=fun o ho e he hb=>by
   rw[hop o ho] at he
   have:=Array.all_eq_true_iff_forall_mem.1 h3 e he
   simpa[hb] using this
  obtain⟨g1,g2⟩:=topo_spec π (i :: done) h4 (fun j hj o ho e he hb=>by
   rcases List.mem_cons.1 hj with rfl|hj
   ·exact List.mem_cons_of_mem _ (hdeps o ho e he hb)
   ·exact List.mem_cons_of_mem _ (hcl j hj o ho e he hb))
  have hanc:∀ k j,Anc l.toArray k j→(∀ o,l.toArray[j]?=some o→∀ e∈o.after,Region.binds .any e=true→e.on∈done)→k∈done:=by
   intro k j h
   induction h with
   |edge hj he hb=>exact fun hd=>hd _ hj _ he hb
   |step hj he hb _ ih=>exact fun hd=>ih (hcl _ (hd _ hj _ he hb))
  refine⟨fun k hk=>?_,List.pairwise_cons.2 ⟨fun y hy=>⟨?_,fun h=>?_⟩,g2⟩⟩
  ·rcases List.mem_cons.1 hk with rfl|hk
   ·exact⟨hi,hnd⟩
   ·exact⟨(g1 k hk).1,fun h=>(g1 k hk).2 (List.mem_cons_of_mem _ h)⟩
  ·rintro rfl;exact (g1 _ hy).2 (List.mem_cons_self ..)
  ·exact (g1 y hy).2 (List.mem_cons_of_mem _ (hanc y i h hdeps))
end
theorem regionF {P:Program} {id:Nat} {Q:Exit→Act→World→Prop} {a:Act} {w:World} {l:List Oper} (flo:Oper→Bool) (S:World→Prop) (πs:List (List Nat)) (hm:P.follows .mixedOrders=true) (hB:chkF flo l πs=true)
  (hS:S w.drew) (h:∀ OPS:Array Oper,Veil (OPS=l.toArray)→∀ R:Act→World→Prop,(∀ a' w',Q .normal a' w'→R a' w')→∀ π∈πs,wpL P OPS flo S R (pick l π) a w.drew):(Code.region id l.toArray true).wp P Q a w:=by
 simp only[chkF,Bool.and_eq_true] at hB
 obtain⟨⟨⟨⟨⟨⟨hsel,hlow⟩,hp⟩,hvo⟩,hne⟩,hπ⟩,hcov⟩:=hB
 have hsel':=Region.noSelect_spec hsel
 have hbit:∀ i j,((masksFrom #[] l).getD j 0).testBit i=true→Anc l.toArray i j:=masksFrom_spec (ops:=l.toArray) l #[] (fun j=>by simp) (by simp)
 refine wp_region_any hm ?_
 have hget:∀ j o,l.toArray[j]?=some o→j < l.length∧o=nth l j:=fun j o ho=>by
  have hj:j < l.length:=by simpa using (Array.getElem?_eq_some_iff.1 ho).1
  simp[hj] at ho;exact⟨hj,by simp[nth,hj,ho]⟩
 refine wpAny_of_fam (S:=S) (P:=P) (Q:=fun a' w'=>Q .normal a' w') (flo:=flo) (fun _ _ h=>h) (bit:=fun i j=>((masksFrom #[] l).getD j 0).testBit i) hbit ?_ ?_ ?_ _ l.length (πs.map (flagsAt flo l)) ((List.range l.length).filter fun j=>!flo (nth l j)) _ a _ ?_ (by simp) ?_ ?_ ?_ ?_ ?_ hS
 ·intro j o ho hf
  obtain⟨hj,rfl⟩:=hget j o ho
  have:=List.all_eq_true.1 hvo (nth l j) (by simp[nth,hj])
  simpa[hf] using this
 ·intro j o ho e he hb
  have hl:l[j]?=some o:=by simpa using ho
  have hm:=List.all_eq_true.1 hlow (o,j) (by rw[List.mem_zipIdx_iff_getElem?];exact hl)
  have:=Array.all_eq_true_iff_forall_mem.1 hm e he
  simpa[hb] using this
 ·have one:∀ i j,i < j→j < l.length→Anc l.toArray i j∨∀ x y,l.toArray[i]?=some x→l.toArray[j]?=some y→(flo x=true∨flo y=true)→Apart l.toArray x y:=by
   intro i j hij hj
   have h1:=List.all_eq_true.1 (List.all_eq_true.1 hp j (List.mem_range.2 hj)) i (List.mem_range.2 hij)
   rw[Bool.or_eq_true] at h1
   rcases h1 with h1|h1
   ·exact .inl (hbit i j h1)
   ·refine .inr fun x y hx hy hf=>?_
    obtain⟨_,rfl⟩:=hget i x hx
    obtain⟨_,rfl⟩:=hget j y hy
    rw[Bool.or_eq_true] at h1
    rcases h1 with h1|h1
    ·rcases hf with hf|hf<;>simp[hf] at h1
    ·obtain⟨s1,s2,s3⟩:=Oper.apart_spec h1
     exact⟨s1,s2,s3,fun cs b=>hsel' i _ cs b hx,fun cs b=>hsel' j _ cs b hy⟩
  intro i j hi hj hij
  rcases Nat.lt_or_gt_of_ne hij with hlt|hlt
  ·exact (one i j hlt (by simpa using hj)).imp (fun h=>h) .inr
  ·rcases one j i hlt (by simpa using hi) with h1|h1
   ·exact .inr (.inl h1)
   ·exact .inr (.inr fun x y hx hy hf=>(h1 y x hy hx hf.symm).symm)
 ·simpa using hne
 ·intro j hj;rw[getD_replicate_false] at hj;cases hj
 ·intro L hL
  obtain⟨π,hπm,rfl⟩:=List.mem_map.1 hL
  have hc:=List.all_eq_true.1 hπ π hπm
  simp only[Bool.and_eq_true] at hc
  obtain⟨⟨hlen,htop⟩,hfull⟩:=hc
  obtain⟨t1,t2⟩:=topo_spec π [] htop (fun j hj=>by cases hj)
  refine⟨by simpa[flagsAt] using hlen,⟨fun f i hfi=>?_,fun i hi _=>?_,?_,?_⟩,?_⟩
  ·obtain⟨j,hj,he⟩:=List.mem_map.1 hfi
   injection he with e1 e2
   subst e2
   have hj':=(t1 j hj).1
   refine⟨by simpa using hj',by simp[hj'],fun o ho=>?_⟩
   obtain⟨_,rfl⟩:=hget _ _ ho
   exact e1
  ·have hi':i < l.length:=by simpa using hi
   have:=List.all_eq_true.1 hfull i (List.mem_range.2 hi')
   exact⟨flo (nth l i),List.mem_map.2 ⟨i,by simpa using this,rfl⟩⟩
  ·exact List.pairwise_map.2 (t2.imp fun h=>h.1)
  ·exact List.pairwise_map.2 (t2.imp fun h=>h.2)
  ·exact wpG_of_pick π a _ (fun i hi=>(t1 i hi).1) (h l.toArray rfl _ (fun _ _ h=>h) π hπm)
 ·intro j hj _ hf
  have hj':j < l.length:=by simpa using hj
  refine List.mem_filter.2 ⟨List.mem_range.2 hj',?_⟩
  have:=hf (nth l j) (by simp[nth,hj'])
  simp[this]
 ·intro j hj
  obtain⟨h1,h2⟩:=List.mem_filter.1 hj
  have hj':j < l.length:=List.mem_range.1 h1
  refine⟨by simp[hj'],fun o ho=>?_⟩
  obtain⟨_,rfl⟩:=hget _ _ ho
  simpa using h2
 ·rw[List.map_map];exact hcov
end Go.RX
namespace Go.RX
open Go.RowKit
theorem exitI {P:Program} {o:Oper} {a:Act} {w:World} {K:Act→World→Prop} {Q:Exit→Act→World→Prop} (h:o.wp P a w K noExit):o.wp P a w K Q:=by
 unfold Oper.wp at *
 generalize (execOp a.eval o).run P w=r at *
 cases r with
 |ok n w'=>
  cases n<;>simp only[Oper.upon] at h ⊢
  case enter f args=>
   refine Calls.mono h fun e w'' he=>?_
   cases e with
   |returned u=>exact he
   |panicked c=>exact he.elim
   |outgrown=>obtain⟨_,_,he⟩:=he;exact he.elim
  all_goals exact h
 |halt x w'=>cases x<;>simp only[Oper.upon] at h ⊢;exact h.elim
def depsOk (o:Oper) (d:Nat→Bool):Prop:=∀ e∈o.after,Region.binds .any e=true→d e.on=true
def StepsI (P:Program) (I:(Nat→Bool)→Act→World→Prop):Nat→List Oper→Prop
 |_,[]=>True
 |k,o :: r=>(∀ d a w,d k=false→depsOk o d→I d a w→o.wp P a w (fun a' w'=>I (fun j=>j == k || d j) a' w') noExit)∧StepsI P I (k+1) r
theorem StepsI.get {P:Program} {I:(Nat→Bool)→Act→World→Prop}:∀ {l:List Oper} {k:Nat},StepsI P I k l→∀ i (h:i < l.length),∀ d a w,d (k+i)=false→depsOk l[i] d→I d a w→l[i].wp P a w (fun a' w'=>I (fun j=>j == k+i || d j) a' w') noExit
 |o :: r,k,h,0,_=>h.1
 |o :: r,k,h,i+1,hi=>by
  have:=StepsI.get h.2 i (by simpa using hi)
  rw[show k+1+i=k+(i+1) by omega] at this
  exact this
theorem wpAny_of_inv {P:Program} {l:List Oper} {Q:Exit→Act→World→Prop} {I:(Nat→Bool)→Act→World→Prop} (hng:∀ o∈l,o.guard=none)
  (hlow:∀ j o,l.toArray[j]?=some o→∀ e∈o.after,Region.binds .any e=true→e.on < j) (hs:StepsI P I 0 l)
  (hend:∀ d a w,(∀ i,i < l.length→d i=true)→I d a w→Q .normal a w) :
  ∀ (n:Nat) (rem:List Nat) (listed:Array Bool) (a:Act) (w:World),listed.size=l.length→rem.length=n→rem.Nodup→(∀ j,j∈rem↔j < l.length∧listed.getD j true=false)→
   I (fun j=>listed.getD j false) a w→wpAny P .any l.toArray Q n listed a w
 |0,rem,listed,a,w,hsz,hn,hnd,hrem,hI=>by
  obtain rfl:=List.eq_nil_of_length_eq_zero hn
  have hall:∀ i,i < l.length→listed.getD i false=true:=by
   intro i hi
   have h:¬ (i < l.length∧listed.getD i true=false):=fun h=>by have:=(hrem i).2 h;simp at this
   have hs:i < listed.size:=by omega
   simp[Array.getD_eq_getD_getElem?,hs] at h ⊢
   exact h hi
  refine⟨List.eq_nil_iff_forall_not_mem.2 fun j hj=>?_,hend _ _ _ hall hI⟩
  obtain⟨hu,o,ho,_⟩:=mem_ready.1 hj
  have hj':j < l.length:=by simpa using (Array.getElem?_eq_some_iff.1 ho).1
  have h1:=hall j hj'
  have hs:j < listed.size:=by omega
  simp[Array.getD_eq_getD_getElem?,hs] at h1 hu
  rw[h1] at hu;cases hu
 |n+1,rem,listed,a,w,hsz,hn,hnd,hrem,hI=>by
  refine⟨fun h0=>?_,fun i hi=>?_⟩
  ·exfalso
   have key:∀ j,j∈rem→∃ i,i∈Region.ready .any l.toArray listed:=by
    intro j
    induction j using Nat.strongRecOn with
    |ind j ih=>
     intro hj
     obtain⟨h1,h2⟩:=(hrem j).1 hj
     by_cases hd:∀ e∈(l[j]).after,Region.binds .any e=true→listed.getD e.on false=true
     ·exact⟨j,mem_ready.2 ⟨h2,l[j],by simp[h1],hd⟩⟩
     ·simp only[Classical.not_forall] at hd
      obtain⟨e,he,hb,hl⟩:=hd
      have hlt:=hlow j l[j] (by simp[h1]) e he hb
      refine ih e.on hlt ((hrem e.on).2 ⟨by omega,?_⟩)
      have hs:e.on < listed.size:=by omega
      simp[Array.getD_eq_getD_getElem?,hs] at hl ⊢
      exact hl
   obtain⟨j,hj⟩:=List.exists_mem_of_ne_nil rem (by rintro rfl;simp at hn)
   obtain⟨i,hi⟩:=key j hj
   rw[h0] at hi;cases hi
  ·obtain⟨hu,o,ho,hdep⟩:=mem_ready.1 hi
   have hlt:i < l.length:=by simpa using (Array.getElem?_eq_some_iff.1 ho).1
   obtain rfl:o=l[i]:=by simp[hlt] at ho;exact ho.symm
   have hw:Region.wanted l[i] (yielded l.toArray a.tmps)=true:=by
    have:=hng l[i] (List.getElem_mem hlt)
    unfold Region.wanted;rw[this]
   unfold wpOp
   simp only[ho,hw,if_true]
   refine .inl (exitI ?_)
   have hu':listed.getD i false=false:=by
    have hs:i < listed.size:=by omega
    simp[Array.getD_eq_getD_getElem?,hs] at hu ⊢;exact hu
   have h1:=hs.get i hlt (fun j=>listed.getD j false) a w (by simpa using hu') hdep hI
   refine Oper.wp_mono (fun a' w' h=>?_) h1
   have hd:(fun j=>(listed.setIfInBounds i true).getD j false)=(fun j=>j == 0+i || listed.getD j false):=by
    funext j
    by_cases hij:j=i
    ·subst hij
     have hs:j < listed.size:=by omega
     simp[Array.getD_eq_getD_getElem?,hs]
    ·rw[Array.getD_eq_getD_getElem?,Array.getElem?_setIfInBounds_ne (Ne.symm hij),←Array.getD_eq_getD_getElem?]
     simp[hij]
   refine wpAny_of_inv hng hlow hs hend n (rem.erase i) _ a' w' (by simp[hsz]) ?_ (hnd.erase i) ?_ ?_
   ·rw[List.length_erase_of_mem ((hrem i).2 ⟨hlt,hu⟩),hn];rfl
   ·intro j
    rw[hnd.mem_erase_iff,hrem j]
    by_cases hij:j=i
    ·subst hij
     have hs:j < listed.size:=by omega
     simp[Array.getD_eq_getD_getElem?,hs]
    ·have e:(listed.setIfInBounds i true).getD j true=listed.getD j true:=by
      rw[Array.getD_eq_getD_getElem?,Array.getElem?_setIfInBounds_ne (Ne.symm hij),←Array.getD_eq_getD_getElem?]
     rw[e];simp[hij]
   ·rw[hd];exact h
def chkI (l:List Oper):Bool:=(l.all fun o=>o.guard.isNone) && (l.zipIdx.all fun (o,j)=>o.after.all fun e=>!Region.binds .any e || decide (e.on < j))
theorem regionI {P:Program} {id:Nat} {Q:Exit→Act→World→Prop} {a:Act} {w:World} {l:List Oper} (I:(Nat→Bool)→Act→World→Prop) (hm:P.follows .mixedOrders=true) (hB:chkI l=true)
  (h0:I (fun _=>false) a w.drew) (hs:StepsI P I 0 l) (hend:∀ d a w,(∀ i,i < l.length→d i=true)→I d a w→Q .normal a w):(Code.region id l.toArray true).wp P Q a w:=by
 simp only[chkI,Bool.and_eq_true] at hB
 obtain⟨hg,hlow⟩:=hB
 refine wp_region_any hm ?_
 have hsz:l.toArray.size=l.length:=by simp
 rw[hsz]
 refine wpAny_of_inv (I:=I) ?_ ?_ hs hend l.length (List.range l.length) _ a _ (by simp) (by simp) List.nodup_range ?_ ?_
 ·intro o ho
  have:=List.all_eq_true.1 hg o ho
  simpa using this
 ·intro j o ho e he hb
  have hl:l[j]?=some o:=by simpa using ho
  have hm:=List.all_eq_true.1 hlow (o,j) (by rw[List.mem_zipIdx_iff_getElem?];exact hl)
  have:=Array.all_eq_true_iff_forall_mem.1 hm e he
  simpa[hb] using this
 ·intro j
  by_cases hj:j < l.length<;>simp[Array.getD_eq_getD_getElem?,hj]
 ·have e:(fun j=>(Array.replicate l.length false).getD j false)=fun _=>false:=by
   funext j
   by_cases hj:j < l.length<;>simp[Array.getD_eq_getD_getElem?,hj]
  rw[e];exact h0
end Go.RX
namespace Go.RY
def noExit:Exit→Act→World→Prop:=fun _ _ _=>False
def nocall (o:Oper):Bool:=match o.op with
 |.move _|.assign _|.pick ..|.build ..|.load ..|.binOp ..|.unOp ..|.convert ..|.makeFunc ..|.makeInterface ..|.slice ..|.fieldAddr ..|.field ..|.indexAddr ..|.index ..|.lookup ..|.extract ..=>true
 |.call { callee:=.builtin .len,.. }|.call { callee:=.builtin .cap,.. }|.call { callee:=.builtin .min,.. }|.call { callee:=.builtin .max,.. }=>true
 |_=>false
section
variable {P:Program} {ops:Array Oper} {S:World→Prop}
def Obl (P:Program) (S:World→Prop) (o:Oper) (v:Value) (a:Act):Prop:=
 ∀ w,S w→∃ u,(execOp a.eval o).run P w=.ok (.value u) w∧∀ d,o.dst=some d→d < a.tmps.size→u=v
theorem put_eq {o:Oper} {a:Act} {u v:Value} (h:∀ d,o.dst=some d→d < a.tmps.size→u=v):a.put o.dst u=a.put o.dst v:=by
 cases hd:o.dst with
 |none=>rfl
 |some d=>
  by_cases hl:d < a.tmps.size
  ·rw[h d hd hl]
  ·simp only[Act.put]
   have hl':a.tmps.size≤d:=Nat.le_of_not_lt hl
   rw[Array.setIfInBounds_eq_of_size_le hl',Array.setIfInBounds_eq_of_size_le hl']
def wpG (P:Program) (ops:Array Oper) (S:World→Prop) (Q:Act→World→Prop):List (Bool × Nat)→Act→World→Prop
 |[],a,w=>Q a w
 |(f,i) :: r,a,w=>
  match ops[i]? with
  |none=>False
  |some o=>
   if Region.wanted o (yielded ops a.tmps) then
    if f then ∃ v,Obl P S o v a∧wpG P ops S Q r (a.put o.dst v) w
    else o.wp P a w (fun a' w'=>(r=[]∨S w')∧wpG P ops S Q r a' w') noExit
   else wpG P ops S Q r (a.put o.dst undef) w
theorem value_of_nocall {o:Oper} (hn:nocall o=true) {ρ:Operand→Value} {w w':World} {n:Next} (h:(execOp ρ o).run P w=.ok n w'):∃ u,n=.value u:=by
 obtain⟨dst,op,type,pos,after,guard⟩:=o
 have key:∀ {α:Type} (s:Sem α) (f:α→Value),(s >>= fun v=>pure (Next.value (f v))).run P w=.ok n w'→∃ u,n=.value u:=by
  intro α s f hs
  rw[Sem.run_bind] at hs
  cases hr:s.run P w with
  |ok v w1=>rw[hr] at hs;simp only[Result.andThen_ok,Sem.run_pure] at hs;injection hs with h1;exact⟨_,h1.symm⟩
  |halt x w1=>rw[hr] at hs;simp[Result.andThen] at hs
 cases op<;>simp only[nocall,Bool.false_eq_true] at hn<;>simp only[execOp] at h
 case call c=>
  obtain⟨callee,args,argTypes⟩:=c
  cases callee with
  |builtin b=>cases b<;>simp only[Bool.false_eq_true] at hn<;>exact key _ id h
  |value f=>simp at hn
  |invoke r m=>simp at hn
 case pick c a b=>exact key _ (fun t:Bool=>if t=true then ρ a else ρ b) h
 all_goals first
  |exact key _ id h
  |(rw[Sem.run_pure] at h;injection h with h1;exact⟨_,h1.symm⟩)
def After (o:Oper) (a a':Act):Prop:=∃ u ds,a'=({ a with defers:=ds }:Act).put o.dst u
theorem wp_after {o:Oper} {a:Act} {w:World} {K:Act→World→Prop} (h:o.wp P a w K noExit):o.wp P a w (fun a' w'=>After o a a'∧K a' w') noExit:=by
 unfold Oper.wp at *
 generalize (execOp a.eval o).run P w=r at *
 cases r with
 |ok n w'=>
  cases n<;>simp only[Oper.upon] at h ⊢
  case value u=>exact⟨⟨u,_,rfl⟩,h⟩
  case skip=>exact⟨⟨_,_,rfl⟩,h⟩
  case defer d=>exact⟨⟨_,_,rfl⟩,h⟩
  case enter f args=>
   refine Calls.mono h fun e w'' he=>?_
   cases e with
   |returned u=>exact⟨⟨u,_,rfl⟩,he⟩
   |panicked c=>exact he
   |outgrown=>exact he
  case row row args=>exact Rows.mono h fun u w'' he=>⟨⟨u,_,rfl⟩,he⟩
 |halt x w'=>cases x<;>simp only[Oper.upon] at h ⊢;exact h
theorem wp_some {o:Oper} {a:Act} {w:World} {K:Act→World→Prop} (h:o.wp P a w K noExit):∃ a' w',K a' w':=by
 unfold Oper.wp at h
 generalize (execOp a.eval o).run P w=r at *
 cases r with
 |ok n w'=>
  cases n<;>simp only[Oper.upon] at h
  case value u=>exact⟨_,_,h⟩
  case skip=>exact⟨_,_,h⟩
  case defer d=>exact⟨_,_,h⟩
  case enter f args=>
   obtain⟨e,w'',fr,hR,_⟩:=h []
   cases e with
   |returned u=>exact⟨_,_,hR⟩
   |panicked c=>exact hR.elim
   |outgrown=>obtain⟨_,_,hR⟩:=hR;exact hR.elim
  case row row args=>
   obtain⟨v,w'',hR,_⟩:=h default []
   exact⟨_,_,hR⟩
 |halt x w'=>cases x<;>simp only[Oper.upon] at h;exact h.elim
theorem wp_put {oj:Oper} {x:Option Tmp} {v:Value} {a:Act} {w:World} {K:Act→World→Prop} (hs:∀ cs b,oj.op≠.select cs b)
  (h1:∀ d,x=some d→d ∉ oj.looksAt ops) (h2:∀ d,x=some d→oj.dst≠some d) (h:oj.wp P (a.put x v) w K noExit) :
  oj.wp P a w (fun a' w'=>After oj a a'∧K (a'.put x v) w') noExit:=by
 refine wp_after ?_
 unfold Oper.wp at *
 rw[execOp_put (ops:=ops) oj hs a x v h1] at h
 generalize (execOp a.eval oj).run P w=r at *
 cases r with
 |ok n w'=>
  cases n<;>simp only[Oper.upon] at h ⊢
  case value u=>rw[←Act.put_comm a v u h2];exact h
  case skip=>rw[←Act.put_comm a v undef h2];exact h
  case defer d=>rw[←Act.put_comm _ v undef h2,←Act.put_defers];exact h
  case enter f args=>
   refine Calls.mono h fun e w'' he=>?_
   cases e with
   |returned u=>show K ((a.put oj.dst u).put x v) w'';rw[←Act.put_comm a v u h2];exact he
   |panicked c=>exact he
   |outgrown=>exact he
  case row row args=>exact Rows.mono h fun u w'' he=>by rw[←Act.put_comm a v u h2];exact he
 |halt x w'=>cases x<;>simp only[Oper.upon] at h ⊢;exact h
structure Apart (ops:Array Oper) (x y:Oper):Prop where
 one:∀ d,x.dst=some d→d ∉ y.looksAt ops
 two:∀ d,x.dst=some d→y.dst≠some d
 three:∀ d,y.dst=some d→d ∉ x.looksAt ops
 selx:∀ cs b,x.op≠.select cs b
 sely:∀ cs b,y.op≠.select cs b
theorem after_exec {x y:Oper} (hap:Apart ops x y) {a a':Act} (h:After x a a'):execOp a'.eval y=execOp a.eval y:=by
 obtain⟨u,ds,rfl⟩:=h
 exact execOp_put (ops:=ops) y hap.sely { a with defers:=ds } x.dst u hap.one
theorem after_wanted {x y:Oper} (hap:Apart ops x y) {a a':Act} (h:After x a a'):Region.wanted y (yielded ops a'.tmps)=Region.wanted y (yielded ops a.tmps):=by
 obtain⟨u,ds,rfl⟩:=h
 exact wanted_put y { a with defers:=ds } x.dst u hap.one
theorem After.size {x:Oper} {a a':Act} (h:After x a a'):a'.tmps.size=a.tmps.size:=by
 obtain⟨u,ds,rfl⟩:=h
 cases hx:x.dst<;>simp[Act.put]
theorem Obl.after {x y:Oper} (hap:Apart ops x y) {a a':Act} (h:After x a a') {v:Value} (ho:Obl P S y v a):Obl P S y v a':=by
 unfold Obl
 rw[after_exec hap h,h.size]
 exact ho
theorem Obl.before {x y:Oper} (hap:Apart ops x y) {a a':Act} (h:After x a a') {v:Value} (ho:Obl P S y v a'):Obl P S y v a:=by
 unfold Obl at *
 rw[after_exec hap h,h.size] at ho
 exact ho
theorem Obl.eq {o:Oper} {v v':Value} {a:Act} (h:Obl P S o v a) (h':Obl P S o v' a) {w:World} (hw:S w):∀ d,o.dst=some d→d < a.tmps.size→v'=v:=by
 intro d hd hl
 obtain⟨u,h1,h2⟩:=h w hw
 obtain⟨u',h3,h4⟩:=h' w hw
 rw[h1] at h3
 injection h3 with h3
 injection h3 with h3
 rw[←h2 d hd hl,←h4 d hd hl,h3]
theorem After.put (x:Oper) (a:Act) (u:Value):After x a (a.put x.dst u):=⟨u,a.defers,rfl⟩
theorem hoistF {Q:Act→World→Prop} {i:Nat} {o:Oper} (hi:ops[i]?=some o) (post:List (Bool × Nat)):∀ (pre:List (Bool × Nat)) (a:Act) (w:World),
  (∀ p∈pre,∀ op,ops[p.2]?=some op→Apart ops op o)→S w→wpG P ops S Q (pre ++ (true,i) :: post) a w→
  if Region.wanted o (yielded ops a.tmps) then ∃ v,Obl P S o v a∧wpG P ops S Q (pre ++ post) (a.put o.dst v) w else wpG P ops S Q (pre ++ post) (a.put o.dst undef) w
 |[],a,w,_,_,h=>by
  simp only[List.nil_append,wpG,hi,if_true] at h
  exact h
 |(f,p) :: pre,a,w,hap,hS,h=>by
  simp only[List.cons_append,wpG] at h
  cases hp:ops[p]? with
  |none=>rw[hp] at h;exact h.elim
  |some op=>
   rw[hp] at h
   dsimp only at h
   have hap1:Apart ops op o:=hap (f,p) (List.mem_cons_self ..) op hp
   have ih:=hoistF (Q:=Q) hi post pre
   have hap':∀ q∈pre,∀ op,ops[q.2]?=some op→Apart ops op o:=fun q hq=>hap q (List.mem_cons_of_mem _ hq)
   have hsym:∀ v u,(a.put op.dst u).put o.dst v=(a.put o.dst v).put op.dst u:=fun v u=>Act.put_comm a u v hap1.two
   have hwp:∀ v,Region.wanted op (yielded ops (a.put o.dst v).tmps)=Region.wanted op (yielded ops a.tmps):=fun v=>wanted_put op a o.dst v hap1.three
   have hep:∀ (a:Act) v,execOp (a.put o.dst v).eval op=execOp a.eval op:=fun a v=>execOp_put (ops:=ops) op hap1.selx a o.dst v hap1.three
   by_cases hwt:Region.wanted op (yielded ops a.tmps)=true
   ·rw[if_pos hwt] at h
    cases f with
    |true=>
     simp only[if_true] at h
     obtain⟨vp,hop,hr⟩:=h
     have haf:=After.put op a vp
     have h1:=ih _ _ hap' hS hr
     rw[after_wanted hap1 haf] at h1
     have hkeep:∀ v,Obl P S op vp (a.put o.dst v):=fun v=>by
      unfold Obl at *
      rw[hep]
      have:(a.put o.dst v).tmps.size=a.tmps.size:=by cases o.dst<;>simp[Act.put]
      rw[this];exact hop
     split
     ·rename_i hw;rw[if_pos hw] at h1
      obtain⟨v,h2,h3⟩:=h1
      refine⟨v,h2.before hap1 haf,?_⟩
      simp only[List.cons_append,wpG,hp]
      rw[hwp,if_pos hwt,if_pos True.intro]
      exact⟨vp,hkeep v,by rw[←hsym];exact h3⟩
     ·rename_i hw;rw[if_neg hw] at h1
      simp only[List.cons_append,wpG,hp]
      rw[hwp,if_pos hwt,if_pos True.intro]
      exact⟨vp,hkeep _,by rw[←hsym];exact h1⟩
    |false=>
     simp only[Bool.false_eq_true,if_false] at h
     have h0:=wp_after h
     have back:∀ v,op.wp P a w (fun a' w'=>(pre ++ post=[]∨S w')∧wpG P ops S Q (pre ++ post) (a'.put o.dst v) w') noExit→wpG P ops S Q (((false,p) :: pre) ++ post) (a.put o.dst v) w:=fun v hh=>by
      simp only[List.cons_append,wpG,hp]
      rw[hwp,if_pos hwt]
      simp only[Bool.false_eq_true,if_false]
      unfold Oper.wp at hh ⊢
      rw[hep]
      generalize (execOp a.eval op).run P w=r at *
      cases r with
      |ok n w'=>
       cases n<;>simp only[Oper.upon] at hh ⊢
       case value u=>rw[←hsym];exact hh
       case skip=>rw[←hsym];exact hh
       case defer d=>
        refine⟨hh.1,?_⟩
        have h5:=hh.2
        rw[Act.put_comm _ undef v hap1.two] at h5
        rw[Act.put_defers];exact h5
       case enter fn args=>
        refine Calls.mono hh fun e w'' he=>?_
        cases e with
        |returned u=>show _∧wpG P ops S Q (pre ++ post) ((a.put o.dst v).put op.dst u) w'';rw[←hsym];exact he
        |panicked c=>exact he
        |outgrown=>obtain⟨_,_,he⟩:=he;exact he.elim
       case row row args=>exact Rows.mono hh fun u w'' he=>by rw[←hsym];exact he
      |halt x w'=>cases x<;>simp only[Oper.upon] at hh ⊢;exact hh
     split
     ·rename_i hw
      obtain⟨a1,w1,haf1,hS1',hr1⟩:=wp_some h0
      have hS1:S w1:=hS1'.resolve_left (by simp)
      have h1:=ih _ _ hap' hS1 hr1
      rw[after_wanted hap1 haf1,if_pos hw] at h1
      obtain⟨v,h2,_⟩:=h1
      have hv:=h2.before hap1 haf1
      refine⟨v,hv,back v (Oper.wp_mono (fun a' w' hh=>⟨.inr (hh.2.1.resolve_left (by simp)),?_⟩) h0)⟩
      have h3:=ih _ _ hap' (hh.2.1.resolve_left (by simp)) hh.2.2
      rw[after_wanted hap1 hh.1,if_pos hw] at h3
      obtain⟨v',h4,h5⟩:=h3
      have h6:=(h4.before hap1 hh.1)
      have h7:=hv.eq h6 hS
      rw[put_eq (o:=o) (u:=v) (v:=v') (fun d hd hl=>(h7 d hd (by rw[hh.1.size] at hl;exact hl)).symm)]
      exact h5
     ·rename_i hw
      refine back undef (Oper.wp_mono (fun a' w' hh=>⟨.inr (hh.2.1.resolve_left (by simp)),?_⟩) h0)
      have h3:=ih _ _ hap' (hh.2.1.resolve_left (by simp)) hh.2.2
      rw[after_wanted hap1 hh.1,if_neg hw] at h3
      exact h3
   ·rw[if_neg hwt] at h
    have haf:=After.put op a undef
    have h1:=ih _ _ hap' hS h
    rw[after_wanted hap1 haf] at h1
    split
    ·rename_i hw;rw[if_pos hw] at h1
     obtain⟨v,h2,h3⟩:=h1
     refine⟨v,h2.before hap1 haf,?_⟩
     simp only[List.cons_append,wpG,hp]
     rw[hwp,if_neg hwt,←hsym];exact h3
    ·rename_i hw;rw[if_neg hw] at h1
     simp only[List.cons_append,wpG,hp]
     rw[hwp,if_neg hwt,←hsym];exact h1
theorem hoistC {Q:Act→World→Prop} {i:Nat} {o:Oper} (hi:ops[i]?=some o) (post:List (Bool × Nat)):∀ (pre:List (Bool × Nat)) (a:Act) (w:World),
  (∀ p∈pre,p.1=true∧∀ op,ops[p.2]?=some op→Apart ops op o)→(post=[]→pre=[])→wpG P ops S Q (pre ++ (false,i) :: post) a w→
  if Region.wanted o (yielded ops a.tmps) then o.wp P a w (fun a' w'=>(pre ++ post=[]∨S w')∧wpG P ops S Q (pre ++ post) a' w') noExit else wpG P ops S Q (pre ++ post) (a.put o.dst undef) w
 |[],a,w,_,_,h=>by
  simp only[List.nil_append,wpG,hi,Bool.false_eq_true,if_false] at h
  exact h
 |(f,p) :: pre,a,w,hap,hlst,h=>by
  have hpost:post≠[]:=fun e=>by cases hlst e
  simp only[List.cons_append,wpG] at h
  cases hp:ops[p]? with
  |none=>rw[hp] at h;exact h.elim
  |some op=>
   rw[hp] at h
   dsimp only at h
   obtain⟨hf,hap0⟩:=hap (f,p) (List.mem_cons_self ..)
   simp only at hf;subst hf
   have hap1:Apart ops op o:=hap0 op hp
   have ih:=hoistC (Q:=Q) hi post pre
   have hap':∀ q∈pre,q.1=true∧∀ op,ops[q.2]?=some op→Apart ops op o:=fun q hq=>hap q (List.mem_cons_of_mem _ hq)
   have hwo:∀ u,Region.wanted o (yielded ops (a.put op.dst u).tmps)=Region.wanted o (yielded ops a.tmps):=fun u=>wanted_put o a op.dst u hap1.one
   have hap2:Apart ops o op:=⟨hap1.three,fun d hd he=>hap1.two d he hd,hap1.one,hap1.sely,hap1.selx⟩
   by_cases hwt:Region.wanted op (yielded ops a.tmps)=true
   ·rw[if_pos hwt] at h
    simp only[if_true] at h
    obtain⟨vp,hop,hr⟩:=h
    have h1:=ih _ _ hap' (fun e=>absurd e hpost) hr
    rw[hwo] at h1
    split
    ·rename_i hw;rw[if_pos hw] at h1
     refine Oper.wp_mono (fun a' w' hh=>⟨.inr (hh.2.1.resolve_left (by simp[hpost])),?_⟩) (wp_put (ops:=ops) hap1.sely hap1.one (fun d hd=>hap1.two d hd) h1)
     simp only[List.cons_append,wpG,hp]
     rw[after_wanted hap2 hh.1,if_pos hwt,if_pos True.intro]
     exact⟨vp,hop.after hap2 hh.1,hh.2.2⟩
    ·rename_i hw;rw[if_neg hw] at h1
     simp only[List.cons_append,wpG,hp]
     have haf:=After.put o a undef
     rw[after_wanted hap2 haf,if_pos hwt,if_pos True.intro]
     exact⟨vp,hop.after hap2 haf,by rw[←Act.put_comm _ vp undef hap1.two];exact h1⟩
   ·rw[if_neg hwt] at h
    have h1:=ih _ _ hap' (fun e=>absurd e hpost) h
    rw[hwo] at h1
    split
    ·rename_i hw;rw[if_pos hw] at h1
     refine Oper.wp_mono (fun a' w' hh=>⟨.inr (hh.2.1.resolve_left (by simp[hpost])),?_⟩) (wp_put (ops:=ops) hap1.sely hap1.one (fun d hd=>hap1.two d hd) h1)
     simp only[List.cons_append,wpG,hp]
     rw[after_wanted hap2 hh.1,if_neg hwt]
     exact hh.2.2
    ·rename_i hw;rw[if_neg hw] at h1
     simp only[List.cons_append,wpG,hp]
     rw[after_wanted hap2 (After.put o a undef),if_neg hwt,←Act.put_comm _ undef undef hap1.two]
     exact h1
inductive Anc (ops:Array Oper):Nat→Nat→Prop where
 |edge {j:Nat} {o:Oper} {e:Edge} (hj:ops[j]?=some o) (he:e∈o.after) (hb:Region.binds .any e=true):Anc ops e.on j
 |step {i j:Nat} {o:Oper} {e:Edge} (hj:ops[j]?=some o) (he:e∈o.after) (hb:Region.binds .any e=true) (h:Anc ops i e.on):Anc ops i j
def Deps (ops:Array Oper) (listed:Array Bool) (j:Nat):Prop:=∀ o,ops[j]?=some o→∀ e∈o.after,Region.binds .any e=true→listed.getD e.on false=true
theorem anc_listed {listed:Array Bool} (hc:∀ j,listed.getD j false=true→Deps ops listed j) {i j:Nat} (h:Anc ops i j):Deps ops listed j→listed.getD i false=true:=by
 induction h with
 |edge hj he hb=>exact fun hd=>hd _ hj _ he hb
 |step hj he hb _ ih=>exact fun hd=>ih (hc _ (hd _ hj _ he hb))
def maskOf (acc:Array Nat) (o:Oper):Nat:=o.after.foldl (fun s e=>if Region.binds .any e then s ||| 2 ^ e.on ||| acc.getD e.on 0 else s) 0
def masksFrom (acc:Array Nat):List Oper→Array Nat
 |[]=>acc
 |o :: r=>masksFrom (acc.push (maskOf acc o)) r
theorem maskOf_spec {acc:Array Nat} {o:Oper} {j:Nat} (hj:ops[j]?=some o) (ha:∀ i j,(acc.getD j 0).testBit i=true→Anc ops i j) {i:Nat} (h:(maskOf acc o).testBit i=true):Anc ops i j:=by
 have key:∀ (l:List Edge) (s:Nat),(∀ e∈l,e∈o.after)→(s.testBit i=true→Anc ops i j)→(l.foldl (fun s e=>if Region.binds .any e then s ||| 2 ^ e.on ||| acc.getD e.on 0 else s) s).testBit i=true→Anc ops i j:=by
  intro l
  induction l with
  |nil=>intro s _ hs h;exact hs h
  |cons e l ih=>
   intro s hl hs h
   refine ih _ (fun e' he'=>hl e' (List.mem_cons_of_mem _ he')) ?_ h
   intro h1
   dsimp only at h1
   by_cases hb:Region.binds .any e=true
   ·rw[if_pos hb] at h1
    rw[Nat.testBit_or,Nat.testBit_or,Bool.or_eq_true,Bool.or_eq_true] at h1
    rcases h1 with (h1|h1)|h1
    ·exact hs h1
    ·rw[Nat.testBit_two_pow] at h1
     have:e.on=i:=by simpa using h1
     subst this
     exact .edge hj (hl e (List.mem_cons_self ..)) hb
    ·exact .step hj (hl e (List.mem_cons_self ..)) hb (ha _ _ h1)
   ·rw[if_neg hb] at h1;exact hs h1
 unfold maskOf at h
 rw[←Array.foldl_toList] at h
 exact key o.after.toList 0 (fun e he=>by simpa using he) (by simp) h
theorem masksFrom_spec:∀ (l:List Oper) (acc:Array Nat),(∀ j,l[j]?=ops[acc.size+j]?)→(∀ i j,(acc.getD j 0).testBit i=true→Anc ops i j)→∀ i j,((masksFrom acc l).getD j 0).testBit i=true→Anc ops i j
 |[],_,_,ha,i,j,h=>ha i j h
 |o :: r,acc,hl,ha,i,j,h=>by
  refine masksFrom_spec r (acc.push (maskOf acc o)) (fun k=>?_) (fun i j hij=>?_) i j h
  ·have:=hl (k+1);simp only[List.getElem?_cons_succ] at this;rw[this];simp[zQ,Nat.add_comm 1 k]
  ·have h0:ops[acc.size]?=some o:=by simpa using (hl 0).symm
   rcases Nat.lt_trichotomy j acc.size with hlt|heq|hgt
   ·refine ha i j ?_
    simpa[Array.getD_eq_getD_getElem?,Array.getElem?_push,Nat.ne_of_lt hlt] using hij
   ·subst heq
    refine maskOf_spec h0 ha ?_
    simpa[Array.getD_eq_getD_getElem?] using hij
   ·have:(acc.push (maskOf acc o))[j]?=none:=Array.getElem?_eq_none (by simp;omega)
    simp[Array.getD_eq_getD_getElem?,this] at hij
def pairOk (flo:Oper→Bool) (ops:Array Oper) (m:Array Nat) (i j:Nat):Bool:=
 (m.getD j 0).testBit i || match ops[i]?,ops[j]? with
  |some x,some y=>x.apart ops y && (flo x || flo y)
  |_,_=>true
def chkG (flo:Oper→Bool) (l:List Oper):Bool:=
 let m:=masksFrom #[] l
 Region.noSelect l.toArray && (l.zipIdx.all fun (o,j)=>o.after.all fun e=>!Region.binds .any e || decide (e.on < j)) &&
  ((List.range l.length).all fun j=>(List.range j).all fun i=>pairOk flo l.toArray m i j) && (List.range (l.length-1)).all fun j=>(m.getD (l.length-1) 0).testBit j
def wpL (P:Program) (ops:Array Oper) (flo:Oper→Bool) (S:World→Prop) (Q:Act→World→Prop):List Oper→Act→World→Prop
 |[],a,w=>Q a w
 |o :: r,a,w=>
  if Region.wanted o (yielded ops a.tmps) then
   if flo o then ∃ v,Obl P S o v a∧wpL P ops flo S Q r (a.put o.dst v) w
   else o.wp P a w (fun a' w'=>(r=[]∨S w')∧wpL P ops flo S Q r a' w') noExit
  else wpL P ops flo S Q r (a.put o.dst undef) w
def flags (flo:Oper→Bool):Nat→List Oper→List (Bool × Nat)
 |_,[]=>[]
 |k,o :: r=>(flo o,k) :: flags flo (k+1) r
theorem wpG_of_wpL {flo:Oper→Bool} {Q:Act→World→Prop}:∀ (l:List Oper) (k:Nat) (a:Act) (w:World),(∀ j,l[j]?=ops[k+j]?)→wpL P ops flo S Q l a w→wpG P ops S Q (flags flo k l) a w
 |[],_,_,_,_,h=>h
 |o :: r,k,a,w,hl,h=>by
  have h0:ops[k]?=some o:=by simpa using (hl 0).symm
  have ih:=fun a w=>wpG_of_wpL (flo:=flo) (Q:=Q) r (k+1) a w (fun j=>by have:=hl (j+1);simpa[zQ,Nat.add_comm 1 j] using this)
  simp only[wpL] at h
  simp only[flags,wpG,h0]
  split
  ·rename_i hw;rw[if_pos hw] at h
   split
   ·rename_i hf;rw[if_pos hf] at h;obtain⟨v,h1,h2⟩:=h;exact⟨v,h1,ih _ _ h2⟩
   ·rename_i hf;rw[if_neg hf] at h;exact Oper.wp_mono (fun a' w' hh=>⟨hh.1.imp (fun e=>by subst e;rfl) id,ih _ _ hh.2⟩) h
  ·rename_i hw;rw[if_neg hw] at h;exact ih _ _ h
structure Left (flo:Oper→Bool) (ops:Array Oper) (listed:Array Bool) (L:List (Bool × Nat)):Prop where
 size:listed.size=ops.size
 mem:∀ f i,(f,i)∈L→i < ops.size∧listed.getD i true=false∧∀ o,ops[i]?=some o→flo o=f
 all:∀ i,i < ops.size→listed.getD i true=false→∃ f,(f,i)∈L
 sorted:L.Pairwise fun x y=>x.2 < y.2
 closed:∀ j,listed.getD j false=true→Deps ops listed j
theorem wpAny_of_wpG {flo:Oper→Bool} {Q:Act→World→Prop} {Q':Exit→Act→World→Prop} (hQ:∀ a w,Q a w→Q' .normal a w)
  (hlow:∀ j o,ops[j]?=some o→∀ e∈o.after,Region.binds .any e=true→e.on < j)
  (hpair:∀ i j,i < j→j < ops.size→Anc ops i j∨∀ x y,ops[i]?=some x→ops[j]?=some y→Apart ops x y∧(flo x=true∨flo y=true)) (hlastA:∀ j m,j < m→ops.size=m+1→Anc ops j m) :
  ∀ (n:Nat) (L:List (Bool × Nat)) (listed:Array Bool) (a:Act) (w:World),L.length=n→Left flo ops listed L→(L=[]∨S w)→wpG P ops S Q L a w→wpAny P .any ops Q' n listed a w
 |0,L,listed,a,w,hn,hL,_,h=>by
  have:L=[]:=List.eq_nil_of_length_eq_zero hn
  subst this
  refine⟨?_,hQ _ _ h⟩
  refine List.eq_nil_iff_forall_not_mem.2 fun j hj=>?_
  obtain⟨hu,o,ho,_⟩:=mem_ready.1 hj
  obtain⟨f,hf⟩:=hL.all j (Array.getElem?_eq_some_iff.1 ho).1 hu
  cases hf
 |n+1,L,listed,a,w,hn,hL,hS',h=>by
  have hS:S w:=hS'.resolve_left (fun e=>by subst e;cases hn)
  refine⟨fun h0=>?_,fun i hi=>?_⟩
  ·exfalso
   match L,hn with
   |(f,i) :: r,_=>
    obtain⟨h1,h2,_⟩:=hL.mem f i (List.mem_cons_self ..)
    have hi:i∈Region.ready .any ops listed:=by
     refine mem_ready.2 ⟨h2,ops[i],Array.getElem?_eq_getElem h1,fun e he hb=>?_⟩
     have hlt:=hlow i _ (Array.getElem?_eq_getElem h1) e he hb
     cases hl:listed.getD e.on false with
     |true=>rfl
     |false=>
      exfalso
      have hlt':e.on < ops.size:=by omega
      have:listed.getD e.on true=false:=by
       have hs:e.on < listed.size:=by rw[hL.size];exact hlt'
       simp[Array.getD_eq_getD_getElem?,hs] at hl ⊢;exact hl
      obtain⟨g,hg⟩:=hL.all e.on hlt' this
      rcases List.mem_cons.1 hg with hg|hg
      ·injection hg with _ hg;omega
      ·have:=(List.pairwise_cons.1 hL.sorted).1 _ hg;simp only at this;omega
    rw[h0] at hi;cases hi
  ·obtain⟨hu,o,ho,hdep⟩:=mem_ready.1 hi
   have hlt:=(Array.getElem?_eq_some_iff.1 ho).1
   obtain⟨f,hf⟩:=hL.all i hlt hu
   have hfo:=(hL.mem f i hf).2.2 o ho
   obtain⟨pre,post,rfl⟩:=List.append_of_mem hf
   have hdeps:Deps ops listed i:=fun o' ho'=>by rw[ho] at ho';injection ho' with ho';subst ho';exact hdep
   have hsort:=List.pairwise_append.1 hL.sorted
   have hpre:∀ p∈pre,∀ op,ops[p.2]?=some op→Apart ops op o∧(flo op=true∨flo o=true):=by
    intro p hp op hop
    have hpi:p.2 < i:=hsort.2.2 p hp (f,i) (List.mem_cons_self ..)
    rcases hpair p.2 i hpi hlt with hanc|hap
    ·exfalso
     have h1:=anc_listed hL.closed hanc hdeps
     have h2:=(hL.mem p.1 p.2 (by simp[hp])).2.1
     have hs:p.2 < listed.size:=by rw[hL.size];omega
     simp[Array.getD_eq_getD_getElem?,hs] at h1 h2
     rw[h1] at h2;cases h2
    ·exact hap op o hop ho
   have hL':Left flo ops (listed.setIfInBounds i true) (pre ++ post):=by
    refine⟨by simp[hL.size],fun g k hk=>?_,fun k hk hku=>?_,?_,fun j hj=>?_⟩
    ·have hk':(g,k)∈pre ++ (f,i) :: post:=by rcases List.mem_append.1 hk with h|h<;>simp[h]
     obtain⟨h1,h2,h3⟩:=hL.mem g k hk'
     have hne:i≠k:=by
      rintro rfl
      rcases List.mem_append.1 hk with h|h
      ·have:=hsort.2.2 _ h (f,i) (List.mem_cons_self ..);simp only at this;omega
      ·have:=(List.pairwise_cons.1 hsort.2.1).1 _ h;simp only at this;omega
     exact⟨h1,by rw[getD_set_ne true hne];exact h2,h3⟩
    ·have hne:i≠k:=by
      rintro rfl
      have hs:i < listed.size:=by rw[hL.size];exact hk
      simp[Array.getD_eq_getD_getElem?,hs] at hku
     rw[getD_set_ne true hne] at hku
     obtain⟨g,hg⟩:=hL.all k hk hku
     refine⟨g,?_⟩
     rcases List.mem_append.1 hg with h|h
     ·simp[h]
     ·rcases List.mem_cons.1 h with h|h
      ·injection h with _ h;exact absurd h.symm hne
      ·simp[h]
    ·refine List.pairwise_append.2 ⟨hsort.1,(List.pairwise_cons.1 hsort.2.1).2,fun x hx y hy=>hsort.2.2 x hx y (List.mem_cons_of_mem _ hy)⟩
    ·intro o' ho' e he hb
     by_cases hji:i=j
     ·subst hji;exact getD_set_true (hdeps o' ho' e he hb)
     ·rw[getD_set_ne false hji] at hj
      exact getD_set_true (hL.closed j hj o' ho' e he hb)
   have hlen:(pre ++ post).length=n:=by simp at hn ⊢;omega
   have ih:=fun a w=>wpAny_of_wpG (flo:=flo) (Q:=Q) hQ hlow hpair hlastA n (pre ++ post) (listed.setIfInBounds i true) a w hlen hL'
   unfold wpOp
   simp only[ho]
   cases f with
   |true=>
    have h1:=hoistF ho post pre a w (fun p hp op hop=>(hpre p hp op hop).1) hS h
    split
    ·rename_i hw;rw[if_pos hw] at h1
     obtain⟨v,hv,h2⟩:=h1
     obtain⟨u,hu1,hu2⟩:=hv w hS
     refine .inl ?_
     unfold Oper.wp
     rw[hu1]
     show wpAny _ _ _ _ _ _ (a.put o.dst u) w
     rw[put_eq (o:=o) hu2]
     exact ih _ _ (.inr hS) h2
    ·rename_i hw;rw[if_neg hw] at h1;exact ih _ _ (.inr hS) h1
   |false=>
    have hlst:post=[]→pre=[]:=by
     intro hp0
     subst hp0
     by_cases him:ops.size=i+1
     ·cases hpr:pre with
      |nil=>rfl
      |cons q r=>
       exfalso
       have hqi:q.2 < i:=hsort.2.2 q (by simp[hpr]) (false,i) (List.mem_cons_self ..)
       have h1:=anc_listed hL.closed (hlastA q.2 i hqi him) hdeps
       have h2:=(hL.mem q.1 q.2 (by simp[hpr])).2.1
       have hs:q.2 < listed.size:=by rw[hL.size];omega
       simp[Array.getD_eq_getD_getElem?,hs] at h1 h2
       rw[h1] at h2;cases h2
     ·exfalso
      obtain⟨m,hm⟩:∃ m,ops.size=m+1:=⟨ops.size-1,by omega⟩
      have him':i < m:=by omega
      cases hlm:listed.getD m true with
      |false=>
       obtain⟨g,hg⟩:=hL.all m (by omega) hlm
       rcases List.mem_append.1 hg with h|h
       ·have:=hsort.2.2 _ h (false,i) (List.mem_cons_self ..);simp only at this;omega
       ·rcases List.mem_cons.1 h with h|h
        ·injection h with _ h;omega
        ·cases h
      |true=>
       have hs:m < listed.size:=by rw[hL.size];omega
       have hm2:listed.getD m false=true:=by
        simp[Array.getD_eq_getD_getElem?,hs] at hlm ⊢;exact hlm
       have h1:=anc_listed hL.closed (hlastA i m him' hm) (hL.closed m hm2)
       have hsi:i < listed.size:=by rw[hL.size];omega
       simp[Array.getD_eq_getD_getElem?,hsi] at h1 hu
       rw[h1] at hu;cases hu
    have h1:=hoistC ho post pre a w (fun p hp=>⟨?_,fun op hop=>(hpre p hp op hop).1⟩) hlst h
    ·split
     ·rename_i hw;rw[if_pos hw] at h1
      refine .inl ?_
      have h2:=Oper.wp_mono (K':=wpAny P .any ops Q' n (listed.setIfInBounds i true)) (fun a' w' hh=>ih a' w' hh.1 hh.2) h1
      unfold Oper.wp at h2 ⊢
      generalize (execOp a.eval o).run P w=r at *
      cases r with
      |ok nx w'=>
       cases nx<;>simp only[Oper.upon] at h2 ⊢<;>first
        |exact h2
        |(refine Calls.mono h2 fun e w'' he=>?_;cases e with|returned u=>exact he|panicked c=>exact he.elim|outgrown=>(obtain⟨_,_,he⟩:=he;exact he.elim))
      |halt x w'=>cases x<;>simp only[Oper.upon] at h2 ⊢;exact h2.elim
     ·rename_i hw;rw[if_neg hw] at h1;exact ih _ _ (.inr hS) h1
    ·have hp2:=hL.mem p.1 p.2 (by simp[hp])
     have h3:=hpre p hp ops[p.2] (Array.getElem?_eq_getElem hp2.1)
     rcases h3.2 with h4|h4
     ·rw[←hp2.2.2 _ (Array.getElem?_eq_getElem hp2.1)];exact h4
     ·rw[hfo] at h4;cases h4
theorem flags_spec (flo:Oper→Bool):∀ (l:List Oper) (k:Nat),(flags flo k l).length=l.length∧(∀ f i,(f,i)∈flags flo k l→k≤i∧i < k+l.length∧∀ o,l[i-k]?=some o→flo o=f)∧
  (∀ i,k≤i→i < k+l.length→∃ f,(f,i)∈flags flo k l)∧(flags flo k l).Pairwise fun x y=>x.2 < y.2
 |[],k=>⟨rfl,(fun f i h=>by cases h),(fun i h1 h2=>by simp at h2;omega),List.Pairwise.nil⟩
 |o :: r,k=>by
  obtain⟨h1,h2,h3,h4⟩:=flags_spec flo r (k+1)
  refine⟨by simp[flags,h1],fun f i h=>?_,fun i hi1 hi2=>?_,?_⟩
  ·rcases List.mem_cons.1 h with h|h
   ·injection h with hf hi;subst hf;subst hi
    exact⟨Nat.le_refl _,by simp,fun o' ho'=>by simp at ho';rw[ho']⟩
   ·obtain⟨a1,a2,a3⟩:=h2 f i h
    refine⟨by omega,by simp;omega,fun o' ho'=>a3 o' ?_⟩
    rw[show i-k=(i-(k+1))+1 from by omega] at ho'
    simpa using ho'
  ·by_cases he:i=k
   ·subst he;exact⟨_,List.mem_cons_self ..⟩
   ·obtain⟨f,hf⟩:=h3 i (by omega) (by simp at hi2;omega)
    exact⟨f,List.mem_cons_of_mem _ hf⟩
  ·refine List.pairwise_cons.2 ⟨fun x hx=>?_,h4⟩
   have:=(h2 x.1 x.2 hx).1
   show k < x.2
   omega
theorem wp_region_G {id:Nat} {Q:Exit→Act→World→Prop} {a:Act} {w:World} {l:List Oper} (flo:Oper→Bool) (S:World→Prop) (hm:P.follows .mixedOrders=true) (hB:chkG flo l=true)
  (hS:S { w with drawn:=w.drawn+1 }) (h:wpL P l.toArray flo S (fun a' w'=>Q .normal a' w') l a { w with drawn:=w.drawn+1 }):(Code.region id l.toArray true).wp P Q a w:=by
 simp only[chkG,Bool.and_eq_true] at hB
 obtain⟨⟨⟨hsel,hlow⟩,hp⟩,hla⟩:=hB
 have hsel':=Region.noSelect_spec hsel
 obtain⟨f1,f2,f3,f4⟩:=flags_spec flo l 0
 have hG:=wpG_of_wpL (P:=P) (ops:=l.toArray) (S:=S) l 0 a _ (fun j=>by simp) h
 refine wp_region_any hm ?_
 have hsz:l.toArray.size=(flags flo 0 l).length:=by simp[f1]
 rw[hsz]
 refine wpAny_of_wpG (S:=S) (P:=P) (Q:=fun a' w'=>Q .normal a' w') (flo:=flo) (fun _ _ h=>h) ?_ ?_ ?_ _ (flags flo 0 l) _ a _ rfl ?_ (.inr hS) hG
 ·intro j o ho e he hb
  have hl:l[j]?=some o:=by simpa using ho
  have hm:=List.all_eq_true.1 hlow (o,j) (by rw[List.mem_zipIdx_iff_getElem?];exact hl)
  have:=Array.all_eq_true_iff_forall_mem.1 hm e he
  simpa[hb] using this
 ·intro i j hij hj
  have hj':j < l.length:=by simpa using hj
  have h1:=List.all_eq_true.1 (List.all_eq_true.1 hp j (List.mem_range.2 hj')) i (List.mem_range.2 hij)
  unfold pairOk at h1
  rcases Bool.or_eq_true _ _ ▸ h1 with h1|h1
  ·exact .inl (masksFrom_spec (ops:=l.toArray) l #[] (fun j=>by simp) (by simp) i j h1)
  ·refine .inr fun x y hx hy=>?_
   simp only[hx,hy,Bool.and_eq_true,Bool.or_eq_true] at h1
   obtain⟨s1,s2,s3⟩:=Oper.apart_spec h1.1
   exact⟨⟨s1,s2,s3,fun cs b=>hsel' i x cs b hx,fun cs b=>hsel' j y cs b hy⟩,h1.2⟩
 ·intro j m hj hm
  have hm':l.length=m+1:=by simpa using hm
  have h1:=List.all_eq_true.1 hla j (List.mem_range.2 (by omega))
  rw[show l.length-1=m by omega] at h1
  exact masksFrom_spec (ops:=l.toArray) l #[] (fun j=>by simp) (by simp) j m h1
 ·refine⟨by simp[f1],fun f i hfi=>?_,fun i hi _=>?_,f4,fun j hj=>?_⟩
  ·obtain⟨b1,b2,b3⟩:=f2 f i hfi
   refine⟨by simpa using b2,?_,fun o ho=>b3 o (by simpa using ho)⟩
   have:i < (flags flo 0 l).length:=by rw[f1];omega
   simp[this]
  ·exact f3 i (Nat.zero_le _) (by simpa using hi)
  ·exfalso
   rw[getD_replicate_false] at hj;cases hj
section
variable {flo:Oper→Bool} {Q:Act→World→Prop} {a:Act} {w:World} {o:Oper} {r:List Oper}
theorem wpL_nil (h:Q a w):wpL P ops flo S Q [] a w:=h
theorem wpL_float {d:Nat} (v:Value) (hw:Region.wanted o (yielded ops a.tmps)=true) (hf:flo o=true) (hn:nocall o=true) (hd:o.dst=some d)
  (h:∀ w,S w→∀ K:Act→World→Prop,(∀ a' w',a'.tmps.getD d undef=v→w'=w→K a' w')→o.wp P a w K noExit)
  (hr:wpL P ops flo S Q r (a.put o.dst v) w):wpL P ops flo S Q (o :: r) a w:=by
 simp only[wpL,hw,hf,if_true]
 refine⟨v,fun w hw=>?_,hr⟩
 have h1:=h w hw (fun a' w'=>a'.tmps.getD d undef=v∧w'=w) (fun _ _ h1 h2=>⟨h1,h2⟩)
 unfold Oper.wp at h1
 cases hr:(execOp a.eval o).run P w with
 |ok n w'=>
  obtain⟨u,rfl⟩:=value_of_nocall hn hr
  rw[hr] at h1
  obtain⟨h2,rfl⟩:=h1
  refine⟨u,rfl,fun d' hd' hl=>?_⟩
  rw[hd] at hd'
  injection hd' with hd'
  subst hd'
  rw[hd] at h2
  simpa[Act.put,hl] using h2
 |halt x w'=>
  rw[hr] at h1
  cases x<;>simp only[Oper.upon] at h1
  exact h1.elim
def Shows (P:Program) (S:World→Prop) (o:Oper) (a:Act) (d:Nat) (v:Value):Prop:=
 ∀ w,S w→∀ K:Act→World→Prop,(∀ a' w',a'.tmps.getD d undef=v→w'=w→K a' w')→o.wp P a w K noExit
end
theorem eval_tmp (l:List Value) (ds:List Deferred) (t:Nat):(Act.mk l.toArray ds).eval (.tmp t)=l.getD t undef:=by simp[Act.eval]
theorem eval_const (a:Act) (v:Value):a.eval (.const v)=v:=rfl
theorem put_some (l:List Value) (ds:List Deferred) (d:Nat) (v:Value):(Act.mk l.toArray ds).put (some d) v=⟨(l.set d v).toArray,ds⟩:=by simp[Act.put]
theorem arr_getD (l:List Value) (d:Nat):l.toArray.getD d undef=l.getD d undef:=by simp
theorem put_none (a:Act) (v:Value):a.put none v=a:=rfl
def One (P:Program) (ops:Array Oper) (flo:Oper→Bool) (S:World→Prop) (R:Act→World→Prop) (r:List Oper) (o:Oper) (a:Act) (w:World):Prop:=
 if Region.wanted o (yielded ops a.tmps) then
  if flo o then ∃ v,Obl P S o v a∧R (a.put o.dst v) w
  else o.wp P a w (fun a' w'=>(r=[]∨S w')∧R a' w') noExit
 else R (a.put o.dst undef) w
section
variable {flo:Oper→Bool} {Q R:Act→World→Prop} {a a':Act} {w:World} {o:Oper} {r:List Oper}
theorem step (h:∀ R:Act→World→Prop,(∀ a w,wpL P ops flo S Q r a w→R a w)→One P ops flo S R r o a w):wpL P ops flo S Q (o :: r) a w:=h _ fun _ _ h=>h
theorem at_ (e:a=a') (h:R a' w):R a w:=e ▸ h
theorem one_skip (hw:Region.wanted o (yielded ops a.tmps)=false) (e:a.put o.dst undef=a') (h:R a' w):One P ops flo S R r o a w:=by
 simp only[One,hw,Bool.false_eq_true,if_false];exact e ▸ h
theorem one_move {x:Operand} {v:Value} (hw:Region.wanted o (yielded ops a.tmps)=true) (hf:flo o=true) (ho:o.op=.move x∨o.op=.assign x) (hv:a.eval x=v) (e:a.put o.dst v=a') (h:R a' w):One P ops flo S R r o a w:=by
 subst hv;subst e
 simp only[One,hw,hf,if_true]
 refine⟨_,fun w hw=>⟨_,?_,fun _ _ _=>rfl⟩,h⟩
 rcases ho with ho|ho<;>simp[execOp,ho]
theorem one_float {d:Nat} (hw:Region.wanted o (yielded ops a.tmps)=true) (hf:flo o=true) (hn:nocall o=true) (hd:o.dst=some d)
  (h:∃ v a',Shows P S o a d v∧a.put (some d) v=a'∧R a' w):One P ops flo S R r o a w:=by
 obtain⟨v,a',h1,rfl,h2⟩:=h
 simp only[One,hw,hf,if_true]
 have h3:=wpL_float (P:=P) (ops:=ops) (S:=S) (flo:=flo) (r:=[]) (Q:=R) (w:=w) v hw hf hn hd h1 (hd ▸ h2)
 simp only[wpL,hw,hf,if_true] at h3
 exact h3
theorem one_chain (hw:Region.wanted o (yielded ops a.tmps)=true) (hf:flo o=false)
  (h:∀ K:Act→World→Prop,(∀ a' w',((r=[]∨S w')∧R a' w')→K a' w')→o.wp P a w K noExit):One P ops flo S R r o a w:=by
 simp only[One,hw,hf,if_true,Bool.false_eq_true,if_false]
 exact h _ fun _ _ h=>h
end
def fW (o:Oper):Bool:=match o.op with
 |.move _|.assign _|.pick ..|.build ..|.binOp ..|.unOp ..|.convert ..|.slice ..|.fieldAddr ..|.field ..|.indexAddr ..|.index ..|.extract ..=>true
 |.call { callee:=.builtin .len,.. }|.call { callee:=.builtin .cap,.. }|.call { callee:=.builtin .min,.. }|.call { callee:=.builtin .max,.. }=>true
 |_=>false
def fL (o:Oper):Bool:=match o.op with
 |.load ..=>true
 |_=>fW o
theorem dec_t {p:Prop} [Decidable p] (h:p):Value.bool (decide p)=Value.bool true:=by rw[decide_eq_true h]
theorem dec_f {p:Prop} [Decidable p] (h:¬ p):Value.bool (decide p)=Value.bool false:=by rw[decide_eq_false h]
theorem beq_t {a b:Int} (h:a=b):Value.bool (a == b)=Value.bool true:=by rw[beq_iff_eq.2 h]
theorem beq_f {a b:Int} (h:a≠b):Value.bool (a == b)=Value.bool false:=by rw[beq_eq_false_iff_ne.2 h]
theorem bne_t {a b:Int} (h:a≠b):Value.bool (a != b)=Value.bool true:=by rw[bne_iff_ne.2 h]
theorem bne_f {a b:Int} (h:a=b):Value.bool (a != b)=Value.bool false:=by subst h;simp
def Veil (p:Prop):Prop:=p
theorem Veil.out {p:Prop} (h:Veil p):p:=h
theorem region {id:Nat} {Q:Exit→Act→World→Prop} {a:Act} {w:World} {l:List Oper} (flo:Oper→Bool) (S:World→Prop) (hm:P.follows .mixedOrders=true) (hB:chkG flo l=true)
  (hS:S w.drew) (h:∀ OPS:Array Oper,Veil (OPS=l.toArray)→∀ R:Act→World→Prop,(∀ a' w',Q .normal a' w'→R a' w')→wpL P OPS flo S R l a w.drew):(Code.region id l.toArray true).wp P Q a w:=
 wp_region_G flo S hm hB hS (h _ rfl _ fun _ _ h=>h)
end
def fN (o:Oper):Bool:=match o.op with
 |.nilCheck ..=>true
 |_=>fL o
theorem one_nil {P:Program} {ops:Array Oper} {S:World→Prop} {flo:Oper→Bool} {R:Act→World→Prop} {r:List Oper} {a a':Act} {w:World} {o:Oper} {x:Operand} {p:Addr} (hw:Region.wanted o (yielded ops a.tmps)=true) (hf:flo o=true) (ho:o.op=.nilCheck x) (hv:a.eval x=.pointer (some p)) (e:a.put o.dst (.pointer (some p))=a') (h:R a' w):One P ops flo S R r o a w:=by
 subst e
 simp only[One,hw,hf,if_true]
 refine⟨_,fun w hw=>⟨_,?_,fun _ _ _=>rfl⟩,h⟩
 simp[execOp,ho,hv]
end Go.RY
namespace Go
abbrev zaY:=@RY.one_skip
abbrev zbY:=@RY.one_move
abbrev zcY:=@RY.one_nil
abbrev zdY:=@RY.one_float
abbrev zeY:=@RY.step
abbrev zgY:=@RY.one_chain
end Go
namespace Go.RX
open Go.RowKit
def cov2 (val:Nat→Bool) (bit:Nat→Nat→Bool):Nat→List Nat→List (List Nat)→Bool
 |0,rem,_=>rem.isEmpty
 |m+1,rem,πs=>rem.all fun j=>rem.any (fun i=>i != j && bit i j) || (!((πs.filterMap fun π=>if π.head?=some j then some π.tail else none).isEmpty) && (val j || decide ((πs.filterMap fun π=>if π.head?=some j then some π.tail else none).length=1)) && cov2 val bit m (rem.filter (· != j)) (πs.filterMap fun π=>if π.head?=some j then some π.tail else none))
section
variable {P:Program} {ops:Array Oper} {S:World→Prop}
theorem wpAny_of_fam2 {flo:Oper→Bool} {Q:Act→World→Prop} {Q':Exit→Act→World→Prop} (hQ:∀ a w,Q a w→Q' .normal a w) {bit:Nat→Nat→Bool} (hbit:∀ i j,bit i j=true→Anc ops i j)
  {val:Nat→Bool} (hval:∀ (j:Nat) (o:Oper),ops[j]?=some o→flo o=false→val j=true→valueOp o=true)
  (hlow:∀ j o,ops[j]?=some o→∀ e∈o.after,Region.binds .any e=true→e.on < j)
  (hpair:∀ i j,i < ops.size→j < ops.size→i≠j→Anc ops i j∨Anc ops j i∨∀ x y,ops[i]?=some x→ops[j]?=some y→(flo x=true∨flo y=true)→Apart ops x y) :
  ∀ (n m:Nat) (F:List (List (Bool × Nat))) (rem:List Nat) (listed:Array Bool) (a:Act) (w:World),F≠[]→listed.size=ops.size→(∀ j,listed.getD j false=true→Deps ops listed j)→
   (∀ L∈F,L.length=n∧LeftT flo ops listed L∧wpG P ops S Q L a w)→(∀ j,j < ops.size→listed.getD j true=false→(∀ o,ops[j]?=some o→flo o=false)→j∈rem)→(∀ j∈rem,listed.getD j true=false∧∀ o,ops[j]?=some o→flo o=false)→cov2 val bit m rem (F.map chs)=true→S w→wpAny P .any ops Q' n listed a w
 |0,m,F,rem,listed,a,w,hF,hsz,hcl,hall,hrem,hrem',hcov,hS=>by
  obtain⟨L,hL⟩:=List.exists_mem_of_ne_nil F hF
  obtain⟨h1,h2,h3⟩:=hall L hL
  obtain rfl:L=[]:=List.eq_nil_of_length_eq_zero h1
  refine⟨?_,hQ _ _ h3⟩
  refine List.eq_nil_iff_forall_not_mem.2 fun j hj=>?_
  obtain⟨hu,o,ho,_⟩:=mem_ready.1 hj
  obtain⟨f,hf⟩:=h2.all j (Array.getElem?_eq_some_iff.1 ho).1 hu
  cases hf
 |n+1,m,F,rem,listed,a,w,hF,hsz,hcl,hall,hrem,hrem',hcov,hS=>by
  refine⟨fun h0=>?_,fun i hi=>?_⟩
  ·exfalso
   obtain⟨L,hLF⟩:=List.exists_mem_of_ne_nil F hF
   obtain⟨hn,hL,_⟩:=hall L hLF
   match L,hn,hL with
   |(f,i) :: r,_,hL=>
    obtain⟨h1,h2,_⟩:=hL.mem f i (List.mem_cons_self ..)
    have hi:i∈Region.ready .any ops listed:=by
     refine mem_ready.2 ⟨h2,ops[i],Array.getElem?_eq_getElem h1,fun e he hb=>?_⟩
     have hlt:=hlow i _ (Array.getElem?_eq_getElem h1) e he hb
     cases hl:listed.getD e.on false with
     |true=>rfl
     |false=>
      exfalso
      have hlt':e.on < ops.size:=by omega
      have:listed.getD e.on true=false:=by
       have hs:e.on < listed.size:=by rw[hsz];exact hlt'
       simp[Array.getD_eq_getD_getElem?,hs] at hl ⊢;exact hl
      obtain⟨g,hg⟩:=hL.all e.on hlt' this
      rcases List.mem_cons.1 hg with hg|hg
      ·injection hg with _ hg;omega
      ·exact (List.pairwise_cons.1 hL.topo).1 _ hg (.edge (Array.getElem?_eq_getElem h1) he hb)
    rw[h0] at hi;cases hi
  ·obtain⟨hu,o,ho,hdep⟩:=mem_ready.1 hi
   have hlt:=(Array.getElem?_eq_some_iff.1 ho).1
   have hdeps:Deps ops listed i:=fun o' ho'=>by rw[ho] at ho';injection ho' with ho';subst ho';exact hdep
   have hcl':∀ j,(listed.setIfInBounds i true).getD j false=true→Deps ops (listed.setIfInBounds i true) j:=by
    intro j hj o' ho' e he hb
    by_cases hji:i=j
    ·subst hji;exact getD_set_true (hdeps o' ho' e he hb)
    ·rw[getD_set_ne false hji] at hj
     exact getD_set_true (hcl j hj o' ho' e he hb)
   have notAnc:∀ k,k < ops.size→listed.getD k true=false→¬ Anc ops k i:=fun k hk hk2 hanc=>by
    have h1:=anc_listed hcl hanc hdeps
    have hs:k < listed.size:=by rw[hsz];exact hk
    simp[Array.getD_eq_getD_getElem?,hs] at h1 hk2
    rw[h1] at hk2;cases hk2
   have hsz':(listed.setIfInBounds i true).size=ops.size:=by simp[hsz]
   have hpre:∀ (pre post:List (Bool × Nat)) (f:Bool),LeftT flo ops listed (pre ++ (f,i) :: post)→∀ p∈pre,(p.1=true∨f=true)→∀ op,ops[p.2]?=some op→Apart ops op o:=by
    intro pre post f hL p hp hfl op hop
    have hm:=hL.mem p.1 p.2 (by simp[hp])
    have hne:=(List.pairwise_append.1 hL.nodup).2.2 p hp (f,i) (List.mem_cons_self ..)
    have htp:=(List.pairwise_append.1 hL.topo).2.2 p hp (f,i) (List.mem_cons_self ..)
    have hfi:=(hL.mem f i (by simp)).2.2 o ho
    rcases hpair p.2 i hm.1 hlt hne with h|h|h
    ·exact (notAnc _ hm.1 hm.2.1 h).elim
    ·exact (htp h).elim
    ·exact h op o hop ho (hfl.imp (fun h=>by rw[hm.2.2 op hop];exact h) (fun h=>by rw[hfi];exact h))
   unfold wpOp
   simp only[ho]
   cases hfo:flo o with
   |true=>
    have hparts:∀ L∈F,∃ pre post,L=pre ++ (true,i) :: post:=fun L hL=>by
     obtain⟨_,h2,_⟩:=hall L hL
     obtain⟨f,hf⟩:=h2.all i hlt hu
     have:=(h2.mem f i hf).2.2 o ho
     rw[hfo] at this;subst this
     exact List.append_of_mem hf
    have hnew:∀ a' w',S w'→(∀ L∈F,wpG P ops S Q (rid i L) a' w')→wpAny P .any ops Q' n (listed.setIfInBounds i true) a' w':=by
     intro a' w' hS' h
     refine wpAny_of_fam2 hQ hbit hval hlow hpair n m (F.map (rid i)) rem _ a' w' (by simpa using hF) hsz' hcl' ?_ ?_ ?_ ?_ hS'
     ·intro L' hL'
      obtain⟨L,hL,rfl⟩:=List.mem_map.1 hL'
      obtain⟨pre,post,rfl⟩:=hparts L hL
      obtain⟨h1,h2,_⟩:=hall _ hL
      have h4:=h _ hL
      rw[rid_app h2.nodup] at h4 ⊢
      exact⟨by simp at h1 ⊢;omega,h2.rid hsz,h4⟩
     ·intro j hj hju hjf
      have hne:i≠j:=by
       rintro rfl
       have hs:i < listed.size:=by rw[hsz];exact hlt
       simp[Array.getD_eq_getD_getElem?,hs] at hju
      rw[getD_set_ne true hne] at hju
      exact hrem j hj hju hjf
     ·intro j hj
      have hne:i≠j:=by
       rintro rfl
       have:=(hrem' i hj).2 o ho
       rw[hfo] at this;cases this
      rw[getD_set_ne true hne]
      exact hrem' j hj
     ·have:(F.map (rid i)).map chs=F.map chs:=by
       rw[List.map_map]
       refine List.map_congr_left fun L hL=>?_
       obtain⟨pre,post,rfl⟩:=hparts L hL
       obtain⟨h1,h2,_⟩:=hall _ hL
       show chs (rid i _)=_
       rw[rid_app h2.nodup,chs_float]
      rw[this];exact hcov
    split
    ·rename_i hw
     refine .inl ?_
     have hv:∃ u,(execOp a.eval o).run P w=.ok (.value u) w∧∀ L∈F,wpG P ops S Q (rid i L) (a.put o.dst u) w:=by
      obtain⟨L0,hL0⟩:=List.exists_mem_of_ne_nil F hF
      have key:∀ L∈F,∃ v,Obl P S o v a∧wpG P ops S Q (rid i L) (a.put o.dst v) w:=by
       intro L hL
       obtain⟨pre,post,rfl⟩:=hparts L hL
       obtain⟨h1,h2,h3⟩:=hall _ hL
       have h4:=hoistF ho post pre a w (fun p hp op hop=>hpre pre post true h2 p hp (.inr rfl) op hop) hS h3
       rw[if_pos hw] at h4
       rw[rid_app h2.nodup]
       exact h4
      obtain⟨v0,hv0,_⟩:=key L0 hL0
      obtain⟨u,hu1,_⟩:=hv0 w hS
      refine⟨u,hu1,fun L hL=>?_⟩
      obtain⟨v,hv,h⟩:=key L hL
      obtain⟨u',hu1',hu2'⟩:=hv w hS
      rw[hu1] at hu1'
      injection hu1' with e1
      injection e1 with e1
      subst e1
      rw[put_eq (o:=o) hu2']
      exact h
     obtain⟨u,hu1,h⟩:=hv
     unfold Oper.wp
     rw[hu1]
     exact hnew _ _ hS h
    ·rename_i hw
     refine hnew _ _ hS fun L hL=>?_
     obtain⟨pre,post,rfl⟩:=hparts L hL
     obtain⟨h1,h2,h3⟩:=hall _ hL
     have h4:=hoistF ho post pre a w (fun p hp op hop=>hpre pre post true h2 p hp (.inr rfl) op hop) hS h3
     rw[if_neg hw] at h4
     rw[rid_app h2.nodup]
     exact h4
   |false=>
    have hir:i∈rem:=hrem i hlt hu (fun o' ho'=>by rw[ho] at ho';injection ho' with ho';subst ho';exact hfo)
    match m,hcov with
    |0,hcov=>simp[cov2] at hcov;subst hcov;cases hir
    |m+1,hcov=>
    simp only[cov2,List.all_eq_true] at hcov
    have hci:=hcov i hir
    have hnone:rem.any (fun k=>k != i && bit k i)=false:=by
     rw[Bool.eq_false_iff]
     intro h
     obtain⟨k,hk,hk2⟩:=List.any_eq_true.1 h
     simp only[Bool.and_eq_true] at hk2
     have hku:=(hrem' k hk).1
     have hks:k < ops.size:=by
      by_cases hks:k < ops.size
      ·exact hks
      ·exfalso
       have:listed[k]?=none:=Array.getElem?_eq_none (by omega)
       simp[Array.getD_eq_getD_getElem?,this] at hku
     exact notAnc k hks hku (hbit k i hk2.2)
    rw[hnone,Bool.false_or,Bool.and_eq_true,Bool.and_eq_true] at hci
    obtain⟨⟨hne0,hval1⟩,hcov2⟩:=hci
    have hsplit:∀ L∈F,(chs L).head?=some i→∃ pre post,L=pre ++ (false,i) :: post∧(∀ p∈pre,p.1=true):=fun L _ h=>split_head L i h
    have hts:((F.map chs).filterMap fun π=>if π.head?=some i then some π.tail else none)=((F.filter fun L=>decide ((chs L).head?=some i)).map (rid i)).map chs:=by
     rw[List.map_map]
     have gen:∀ G:List (List (Bool × Nat)),(∀ L∈G,L∈F)→((G.map chs).filterMap fun π=>if π.head?=some i then some π.tail else none)=(G.filter fun L=>decide ((chs L).head?=some i)).map (chs ∘ rid i):=by
      intro G
      induction G with
      |nil=>intro _;rfl
      |cons L G ih=>
       intro hG
       have ih:=ih fun L hL=>hG L (List.mem_cons_of_mem _ hL)
       rw[List.map_cons,List.filterMap_cons,List.filter_cons]
       by_cases hh:(chs L).head?=some i
       ·obtain⟨pre,post,hLe,hp⟩:=hsplit L (hG L (List.mem_cons_self ..)) hh
        have h2:=(hall L (hG L (List.mem_cons_self ..))).2.1
        rw[if_pos hh,if_pos (by simpa using hh),List.map_cons,ih]
        have e:chs (rid i L)=(chs L).tail:=by
         subst hLe
         rw[rid_app h2.nodup,chs_head (π:=[]) hp];rfl
        show (chs L).tail :: _=chs (rid i L) :: _
        rw[e]
       ·rw[if_neg hh,if_neg (by simpa using hh),ih]
     exact gen F fun _ h=>h
    rw[hts] at hne0 hcov2 hval1
    have hF':(F.filter fun L=>decide ((chs L).head?=some i))≠[]:=by
     intro h;rw[h] at hne0;simp at hne0
    have hnew:∀ a' w',S w'→(∀ L∈F,(chs L).head?=some i→wpG P ops S Q (rid i L) a' w')→wpAny P .any ops Q' n (listed.setIfInBounds i true) a' w':=by
     intro a' w' hS' h
     refine wpAny_of_fam2 hQ hbit hval hlow hpair n m ((F.filter fun L=>decide ((chs L).head?=some i)).map (rid i)) (rem.filter (· != i)) _ a' w' (by simpa using hF') hsz' hcl' ?_ ?_ ?_ hcov2 hS'
     ·intro L' hL'
      obtain⟨L,hL,rfl⟩:=List.mem_map.1 hL'
      obtain⟨hLF,hh⟩:=List.mem_filter.1 hL
      have hh':(chs L).head?=some i:=by simpa using hh
      obtain⟨pre,post,rfl,hp⟩:=hsplit L hLF hh'
      obtain⟨h1,h2,_⟩:=hall _ hLF
      have h4:=h _ hLF hh'
      rw[rid_app h2.nodup] at h4 ⊢
      exact⟨by simp at h1 ⊢;omega,h2.rid hsz,h4⟩
     ·intro j hj hju hjf
      have hne:i≠j:=by
       rintro rfl
       have hs:i < listed.size:=by rw[hsz];exact hlt
       simp[Array.getD_eq_getD_getElem?,hs] at hju
      rw[getD_set_ne true hne] at hju
      exact List.mem_filter.2 ⟨hrem j hj hju hjf,by simpa using Ne.symm hne⟩
     ·intro j hj
      obtain⟨hj1,hj2⟩:=List.mem_filter.1 hj
      have hne:i≠j:=by
       rintro rfl;simp at hj2
      rw[getD_set_ne true hne]
      exact hrem' j hj1
    have hone:∀ L∈F,(chs L).head?=some i→if Region.wanted o (yielded ops a.tmps) then o.wp P a w (fun a' w'=>S w'∧wpG P ops S Q (rid i L) a' w') noExit else wpG P ops S Q (rid i L) (a.put o.dst undef) w:=by
     intro L hL hh
     obtain⟨pre,post,rfl,hp⟩:=hsplit L hL hh
     obtain⟨h1,h2,h3⟩:=hall _ hL
     rw[rid_app h2.nodup]
     exact hoistC ho post pre a w (fun p hpp=>⟨hp p hpp,fun op hop=>hpre pre post false h2 p hpp (.inl (hp p hpp)) op hop⟩) h3
    split
    ·rename_i hw
     refine .inl ?_
     obtain⟨L0,hL0⟩:=List.exists_mem_of_ne_nil _ hF'
     obtain⟨hL0F,hh0⟩:=List.mem_filter.1 hL0
     have h0:=hone L0 hL0F (by simpa using hh0)
     have hrest:∀ L∈F,(chs L).head?=some i→o.wp P a w (fun a' w'=>S w'∧wpG P ops S Q (rid i L) a' w') noExit:=fun L hL hh=>by
      have:=hone L hL hh
      rw[if_pos hw] at this;exact this
     rw[if_pos hw] at h0
     cases hvi:val i with
     |false=>
      rw[hvi,Bool.false_or] at hval1
      have hlen:(F.filter fun L=>decide ((chs L).head?=some i)).length=1:=by simpa using hval1
      obtain⟨L1,hL1⟩:=List.length_eq_one_iff.1 hlen
      have hu1:∀ L∈F,(chs L).head?=some i→L=L1:=fun L hL hh=>by
       have:L∈(F.filter fun L=>decide ((chs L).head?=some i)):=List.mem_filter.2 ⟨hL,by simpa using hh⟩
       rw[hL1] at this;simpa using this
      have h01:L0=L1:=hu1 L0 hL0F (by simpa using hh0)
      refine exitI (Oper.wp_mono (fun a' w' hh=>hnew a' w' hh.1 fun L hL hl=>?_) h0)
      rw[hu1 L hL hl,←h01];exact hh.2
     |true=>
     unfold Oper.wp at h0 hrest ⊢
     cases hr:(execOp a.eval o).run P w with
     |ok nx w'=>
      obtain⟨u,rfl⟩:=value_of_valueOp (hval i o ho hfo hvi) hr
      rw[hr] at h0
      refine hnew _ _ h0.1 fun L hL hh=>?_
      have:=hrest L hL hh
      rw[hr] at this
      exact this.2
     |halt x w'=>
      rw[hr] at h0
      cases x<;>simp only[Oper.upon] at h0 ⊢
      exact h0.elim
    ·rename_i hw
     refine hnew _ _ hS fun L hL hh=>?_
     have:=hone L hL hh
     rw[if_neg hw] at this
     exact this
end
def chkF2 (flo:Oper→Bool) (l:List Oper) (πs:List (List Nat)):Bool:=
 let m:=masksFrom #[] l
 Region.noSelect l.toArray && (l.zipIdx.all fun (o,j)=>o.after.all fun e=>!Region.binds .any e || decide (e.on < j)) &&
  ((List.range l.length).all fun j=>(List.range j).all fun i=>(m.getD j 0).testBit i || ((!flo (nth l i) && !flo (nth l j)) || (nth l i).apart l.toArray (nth l j))) &&
  !πs.isEmpty && πs.all (fun π=>π.length == l.length && topoOk l [] π && (List.range l.length).all (fun i=>π.contains i)) &&
  cov2 (fun j=>valueOp (nth l j)) (fun i j=>(m.getD j 0).testBit i) l.length ((List.range l.length).filter fun j=>!flo (nth l j)) (πs.map fun π=>chs (flagsAt flo l π))
section
variable {S:World→Prop}
theorem regionF2 {P:Program} {id:Nat} {Q:Exit→Act→World→Prop} {a:Act} {w:World} {l:List Oper} (flo:Oper→Bool) (S:World→Prop) (πs:List (List Nat)) (hm:P.follows .mixedOrders=true) (hB:chkF2 flo l πs=true)
  (hS:S w.drew) (h:∀ OPS:Array Oper,Veil (OPS=l.toArray)→∀ R:Act→World→Prop,(∀ a' w',Q .normal a' w'→R a' w')→∀ π∈πs,wpL P OPS flo S R (pick l π) a w.drew):(Code.region id l.toArray true).wp P Q a w:=by
 simp only[chkF2,Bool.and_eq_true] at hB
 obtain⟨⟨⟨⟨⟨hsel,hlow⟩,hp⟩,hne⟩,hπ⟩,hcov⟩:=hB
 have hsel':=Region.noSelect_spec hsel
 have hbit:∀ i j,((masksFrom #[] l).getD j 0).testBit i=true→Anc l.toArray i j:=masksFrom_spec (ops:=l.toArray) l #[] (fun j=>by simp) (by simp)
 refine wp_region_any hm ?_
 have hget:∀ j o,l.toArray[j]?=some o→j < l.length∧o=nth l j:=fun j o ho=>by
  have hj:j < l.length:=by simpa using (Array.getElem?_eq_some_iff.1 ho).1
  simp[hj] at ho;exact⟨hj,by simp[nth,hj,ho]⟩
 refine wpAny_of_fam2 (val:=fun j=>valueOp (nth l j)) (S:=S) (P:=P) (Q:=fun a' w'=>Q .normal a' w') (flo:=flo) (fun _ _ h=>h) (bit:=fun i j=>((masksFrom #[] l).getD j 0).testBit i) hbit ?_ ?_ ?_ _ l.length (πs.map (flagsAt flo l)) ((List.range l.length).filter fun j=>!flo (nth l j)) _ a _ ?_ (by simp) ?_ ?_ ?_ ?_ ?_ hS
 ·intro j o ho hf hv
  obtain⟨hj,rfl⟩:=hget j o ho
  exact hv
 ·intro j o ho e he hb
  have hl:l[j]?=some o:=by simpa using ho
  have hm:=List.all_eq_true.1 hlow (o,j) (by rw[List.mem_zipIdx_iff_getElem?];exact hl)
  have:=Array.all_eq_true_iff_forall_mem.1 hm e he
  simpa[hb] using this
 ·have one:∀ i j,i < j→j < l.length→Anc l.toArray i j∨∀ x y,l.toArray[i]?=some x→l.toArray[j]?=some y→(flo x=true∨flo y=true)→Apart l.toArray x y:=by
   intro i j hij hj
   have h1:=List.all_eq_true.1 (List.all_eq_true.1 hp j (List.mem_range.2 hj)) i (List.mem_range.2 hij)
   rw[Bool.or_eq_true] at h1
   rcases h1 with h1|h1
   ·exact .inl (hbit i j h1)
   ·refine .inr fun x y hx hy hf=>?_
    obtain⟨_,rfl⟩:=hget i x hx
    obtain⟨_,rfl⟩:=hget j y hy
    rw[Bool.or_eq_true] at h1
    rcases h1 with h1|h1
    ·rcases hf with hf|hf<;>simp[hf] at h1
    ·obtain⟨s1,s2,s3⟩:=Oper.apart_spec h1
     exact⟨s1,s2,s3,fun cs b=>hsel' i _ cs b hx,fun cs b=>hsel' j _ cs b hy⟩
  intro i j hi hj hij
  rcases Nat.lt_or_gt_of_ne hij with hlt|hlt
  ·exact (one i j hlt (by simpa using hj)).imp (fun h=>h) .inr
  ·rcases one j i hlt (by simpa using hi) with h1|h1
   ·exact .inr (.inl h1)
   ·exact .inr (.inr fun x y hx hy hf=>(h1 y x hy hx hf.symm).symm)
 ·simpa using hne
 ·intro j hj;rw[getD_replicate_false] at hj;cases hj
 ·intro L hL
  obtain⟨π,hπm,rfl⟩:=List.mem_map.1 hL
  have hc:=List.all_eq_true.1 hπ π hπm
  simp only[Bool.and_eq_true] at hc
  obtain⟨⟨hlen,htop⟩,hfull⟩:=hc
  obtain⟨t1,t2⟩:=topo_spec π [] htop (fun j hj=>by cases hj)
  refine⟨by simpa[flagsAt] using hlen,⟨fun f i hfi=>?_,fun i hi _=>?_,?_,?_⟩,?_⟩
  ·obtain⟨j,hj,he⟩:=List.mem_map.1 hfi
   injection he with e1 e2
   subst e2
   have hj':=(t1 j hj).1
   refine⟨by simpa using hj',by simp[hj'],fun o ho=>?_⟩
   obtain⟨_,rfl⟩:=hget _ _ ho
   exact e1
  ·have hi':i < l.length:=by simpa using hi
   have:=List.all_eq_true.1 hfull i (List.mem_range.2 hi')
   exact⟨flo (nth l i),List.mem_map.2 ⟨i,by simpa using this,rfl⟩⟩
  ·exact List.pairwise_map.2 (t2.imp fun h=>h.1)
  ·exact List.pairwise_map.2 (t2.imp fun h=>h.2)
  ·exact wpG_of_pick π a _ (fun i hi=>(t1 i hi).1) (h l.toArray rfl _ (fun _ _ h=>h) π hπm)
 ·intro j hj _ hf
  have hj':j < l.length:=by simpa using hj
  refine List.mem_filter.2 ⟨List.mem_range.2 hj',?_⟩
  have:=hf (nth l j) (by simp[nth,hj'])
  simp[this]
 ·intro j hj
  obtain⟨h1,h2⟩:=List.mem_filter.1 hj
  have hj':j < l.length:=List.mem_range.1 h1
  refine⟨by simp[hj'],fun o ho=>?_⟩
  obtain⟨_,rfl⟩:=hget _ _ ho
  simpa using h2
 ·rw[List.map_map];exact hcov
end
end Go.RX
namespace Go.Proofs.YtednaajanciabaaGreatDoor
open Go.RowKit
theorem grw_below {w w':World} (h:Below w.heap.size w w') (row:Option Nat):w.grownBy w' row:=⟨h.os,h.tape,h.output,h.size,fun j hj _=>h.block j hj⟩
theorem grw_set {w w':World} {g k i:Nat} {v:Value} (h:w.grownBy w' (some g)) (hk:k=g∨w.heap.size≤k):w.grownBy (w'.setCell ⟨k,i,none⟩ v) (some g):=
 ⟨h.os,h.tape,h.output,by simpa[World.setCell] using h.size,fun j hj hne=>(Below.heap_setCell _ _ _ j (fun e=>by simp only at e;rcases hk with hk|hk;exact hne (by rw[e,hk]);omega)).trans (h.block j hj hne)⟩
theorem grw_refl (w:World) (row:Option Nat):w.grownBy w row:=⟨rfl,rfl,rfl,Nat.le_refl _,fun _ _ _=>rfl⟩
theorem grw_alloc {w w':World} {row:Option Nat} (h:w.grownBy w' row) (o:Obj):w.grownBy (w'.alloc o) row:=h.trans (World.grownBy_alloc _ _ _)
def VecAt (w:World) (p:Option Addr) (zs:List Int):Prop:=∃ b o,(0 < zs.length→p=some ⟨b,o,none⟩)∧∀ j (h:j < zs.length),w.cell? ⟨b,o+j,none⟩=some (.int .i64 zs[j])
theorem VecAt.below {w w':World} {p:Option Addr} {zs:List Int} (h:VecAt w p zs) (hb:Below w.heap.size w w'):VecAt w' p zs:=by
 obtain⟨b,o,h1,h2⟩:=h
 exact⟨b,o,h1,fun j hj=>zP hb (h2 j hj)⟩
theorem VecAt.cell {w:World} {p:Option Addr} {zs:List Int} (h:VecAt w p zs) (h0:0 < zs.length):∃ b o,p=some ⟨b,o,none⟩∧b < w.heap.size∧∀ j (h:j < zs.length),w.cell? ⟨b,o+j,none⟩=some (.int .i64 zs[j]):=by
 obtain⟨b,o,h1,h2⟩:=h
 exact⟨b,o,h1 h0,zM _ _ (h2 0 h0),h2⟩
def I64L (zs:List Int):Prop:=∀ x∈zs,-9223372036854775808≤x∧x≤9223372036854775807
end Go.Proofs.YtednaajanciabaaGreatDoor
namespace Go
abbrev zBs:=@Go.RowKit.Below.setCell
abbrev zBa:=@Go.RowKit.Below.alloc
abbrev zBd:=@Go.RowKit.Below.drew
abbrev zBr:=@Go.RowKit.Below.refl
abbrev zFb:=@World.frozen?_of_block
abbrev zDf:=@decide_eq_false
abbrev zDt:=@decide_eq_true
abbrev zEx:=@Exists.intro.{1}
end Go
