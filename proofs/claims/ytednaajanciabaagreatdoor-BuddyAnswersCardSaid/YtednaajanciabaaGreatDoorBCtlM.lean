import Derived.Test.YtednaajanciabaaGreatDoorKBCtl
import Derived.Great.BuildSlice
set_option maxRecDepth 100000
set_option maxHeartbeats 8000000
set_option linter.unusedSimpArgs false
set_option linter.unusedVariables false
namespace Go.Proofs.YtednaajanciabaaGreatDoor
open Go.RowKit Go.Grid Go.Buddy
theorem zeroCtl:((Tryz.prog.info? 29).bind (·.zero)).map (·.cells)=some ((List.replicate 41 (Value.int .i64 0)).toArray):=by kernel_rfl
theorem sizeCtl:(Tryz.prog.info? 29).map (·.size)=some 41:=by kernel_rfl
theorem fill_two (k1 k2:Ctl):Instr.fill (fun i=>some (i*41,41)) ((Array.range (2*41)).map ((List.replicate 41 (Value.int .i64 0)).toArray[· % (List.replicate 41 (Value.int .i64 0)).toArray.size]!)) [(0,ctv k1),(1,ctv k2)]=some (ctlL k1 ++ ctlL k2).toArray:=by
 obtain⟨h1,st1,sp1,th1,bd1,fr1,en1,lv1⟩:=k1
 obtain⟨h2,st2,sp2,th2,bd2,fr2,en2,lv2⟩:=k2
 kernel_rfl
theorem wpl_two {ops:Array Oper} {rest:List Oper} {op:Oper} {a:Act} {w:World} {Q:Exit→Act→World→Prop} (hgd:op.guard=none) (x y:Operand) (ho:op.op=.buildSlice 62 2 #[(0,x),(1,y)]) (k1 k2:Ctl) (hx:a.eval x=ctv k1) (hy:a.eval y=ctv k2)
  (h:wpList Tryz.prog ops Q rest (a.put op.dst (.slice (some ⟨w.heap.size,0,none⟩) 2 2)) (w.alloc (.cells (ctlL k1 ++ ctlL k2).toArray 29))):wpList Tryz.prog ops Q (op :: rest) a w:=by
 have hz:=zeroCtl
 have hs:=sizeCtl
 cases hie:Tryz.prog.info? 29 with
 |none=>rw[hie] at hs;cases hs
 |some ie=>
  rw[hie] at hz hs
  simp only[Option.map_some,Option.some.injEq,Option.bind_some] at hz hs
  cases hzz:ie.zero with
  |none=>rw[hzz] at hz;cases hz
  |some z=>
   rw[hzz] at hz
   simp only[Option.map_some,Option.some.injEq] at hz
   refine Go.wpList_buildSlice hgd 62 29 2 _ ho _ ie z Tryz.underlying62 hie hzz (by rw[hs];omega) (by rw[hs];omega) ?_ h
   rw[hz,hs]
   have e:(#[(0,x),(1,y)].map fun (q:Nat × Operand)=>(q.1,a.eval q.2)).toList=[(0,ctv k1),(1,ctv k2)]:=by simp[hx,hy]
   exact (congrArg (Instr.fill _ _) e).trans (fill_two k1 k2)
theorem ctlL_len (k:Ctl):(ctlL k).length=41:=rfl
def CtlIn (w:World) (g o:Nat) (k:Ctl):Prop:=Go.World.rangeAt w g o (ctlL k)
theorem CtlIn.below {w w':World} {g o:Nat} {k:Ctl} (h:CtlIn w g o k) (hb:Below w.heap.size w w'):CtlIn w' g o k:=fun j v hv=>zP hb (h j v hv)
theorem CtlIn.two (w:World) (k1 k2:Ctl):CtlIn (w.alloc (.cells (ctlL k1 ++ ctlL k2).toArray 29)) w.heap.size 0 k1∧CtlIn (w.alloc (.cells (ctlL k1 ++ ctlL k2).toArray 29)) w.heap.size 41 k2:=by
 have hb:(w.alloc (.cells (ctlL k1 ++ ctlL k2).toArray 29)).heap[w.heap.size]?=some (.cells (ctlL k1 ++ ctlL k2).toArray 29 (0,0)):=heap_alloc_new _ _
 have key:∀ j,(w.alloc (.cells (ctlL k1 ++ ctlL k2).toArray 29)).cell? ⟨w.heap.size,j,none⟩=(ctlL k1 ++ ctlL k2)[j]?:=fun j=>by
  simp only[World.cell?,hb,List.getElem?_toArray]
  rfl
 refine⟨fun j v hv=>?_,fun j v hv=>?_⟩
 ·rw[key,Nat.zero_add,List.getElem?_append_left (List.getElem?_eq_some_iff.1 hv).1];exact hv
 ·rw[key,List.getElem?_append_right (by rw[ctlL_len];omega),ctlL_len,show 41+j-41=j by omega];exact hv
theorem wpl_loadM {ops:Array Oper} {rest:List Oper} {op:Oper} {a:Act} {w:World} {Q:Exit→Act→World→Prop} (hgd:op.guard=none) (x:Operand) (ho:op.op=.load 29 x) (g o:Nat) (k:Ctl) (hx:a.eval x=.pointer (some ⟨g,o,none⟩)) (hc:CtlIn w g o k)
  (h:wpList Tryz.prog ops Q rest (a.put op.dst (ctv k)) w):wpList Tryz.prog ops Q (op :: rest) a w:=
 Go.wpList_load_mid hgd 29 x ho g o hx (ctlL k) _ hc Tryz.underlying29 rfl (by kernel_rfl) h
end Go.Proofs.YtednaajanciabaaGreatDoor
