import Derived.Test.YtednaajanciabaaGreatDoorBOrdP
set_option maxRecDepth 100000
set_option maxHeartbeats 8000000
set_option linter.unusedSimpArgs false
set_option linter.unusedVariables false
namespace Go.Proofs.YtednaajanciabaaGreatDoor
open Go.RowKit Go.Grid Go.Buddy
def shR (d:Int) (R:Rdg):Rdg:=if fB R 1 then [(1,fV R 1+d)] else []
theorem shR_fB (d:Int) (R:Rdg) (e:Nat):fB (shR d R) (e:Int)=(decide (e=1) && fB R 1):=by
 unfold shR
 cases h:fB R 1 with
 |false=>simp;rfl
 |true=>
  rw[if_pos rfl,Bool.and_true]
  by_cases he:e=1
  ·subst he;rfl
  ·rw[zDf he]
   have h1:((1:Int) == (e:Int))=false:=by rw[beq_eq_false_iff_ne];omega
   unfold fB findL
   simp[List.find?,h1]
theorem shR_fV (d:Int) (R:Rdg) (h:fB R 1=true):fV (shR d R) 1=fV R 1+d:=by
 unfold shR
 rw[if_pos h];rfl
structure ShOk (d:Int) (L Y:List BR):Prop where
 len:Y.length=L.length
 nm:∀ i,i < L.length→(bat Y i).1.name=(bat L i).1.name
 pl:∀ i,i < L.length→plB (bat Y i).1=plB (bat L i).1
 rd:∀ i,i < L.length→(bat Y i).2=shR d (bat L i).2
section
variable {d:Int} {L Y:List BR} (h:ShOk d L Y)
include h
theorem sh_aro (n:Nat) {i:Nat} (hi:i < L.length):aroL n Y ((1:Nat):Int) i=aroL n L ((1:Nat):Int) i:=by
 have hf:∀ j,j < L.length→fB (bat Y j).2 ((1:Nat):Int)=fB (bat L j).2 ((1:Nat):Int):=fun j hj=>by
  rw[h.rd j hj,shR_fB];rfl
 unfold aroL
 rw[hf i hi,h.len]
 split
 ·refine List.filter_congr fun k hk=>?_
  have hk':=List.mem_range.1 hk
  unfold aroP cloN
  rw[hf k hk',h.nm i hi,h.nm k hk',h.pl i hi,h.pl k hk']
 ·rfl
theorem sh_bad (n:Nat) (f:Nat→Int) (e:Nat) {i:Nat} (hi:i < L.length):badF n Y f e i=(decide (e=1) && badF n L f e i):=by
 by_cases he:e=1
 ·subst he
  rw[zDt rfl,Bool.true_and]
  unfold badF rej
  have hp:∀ j,j < L.length→(panB n L (f 1) 1).pr j=(panB n Y (f 1) 1).pr j:=fun j hj=>by
   show fB (bat L j).2 ((1:Nat):Int)=fB (bat Y j).2 ((1:Nat):Int)
   rw[h.rd j hj,shR_fB];rfl
  have hl:=left_shift (P:=panB n L (f 1) 1) (Q:=panB n Y (f 1) 1) (d:=d) h.len.symm (panB_closed _ _ _ _) hp (fun j hj hpr=>by
   show fV (bat Y j).2 ((1:Nat):Int)=fV (bat L j).2 ((1:Nat):Int)+d
   rw[h.rd j hj]
   exact shR_fV d _ hpr) (fun j hj=>(sh_aro h n hj).symm) (fun j hj k hk=>by
   have hk':k∈aroL n L ((1:Nat):Int) j:=hk
   unfold aroL at hk'
   split at hk'
   ·have:=(List.mem_filter.1 hk').2
    unfold aroP at this
    rw[Bool.and_eq_true] at this
    exact this.1
   ·cases hk') rfl hi
  rw[hp i hi,hl]
 ·rw[zDf he,Bool.false_and]
  unfold badF rej
  have:(panB n Y (f e) e).pr i=false:=by
   show fB (bat Y i).2 (e:Int)=false
   rw[h.rd i hi,shR_fB,zDf he];rfl
  rw[this];simp
end
theorem flsE_filt (F:Nat→Nat→Bool) (i c:Nat):(flsE F i c).filter (fun v=>decide (v.2=1))=flsE (fun e i=>decide (e=1) && F e i) i c:=by
 unfold flsE
 rw[List.filter_map,List.filter_filter]
 congr 1
 refine List.filter_congr fun e _=>?_
 show (decide ((e:Int)=1) && (decide (1≤e) && F e i))=(decide (1≤e) && (decide (e=1) && F e i))
 have:decide ((e:Int)=1)=decide (e=1):=by rw[decide_eq_decide];omega
 rw[this]
 cases decide (e=1)<;>cases decide (1≤e)<;>rfl
theorem flsA_filt (F:Nat→Nat→Bool):∀ m,(flsA F m).filter (fun v=>decide (v.2=1))=flsA (fun e i=>decide (e=1) && F e i) m
 |0=>rfl
 |m+1=>by rw[flsA_succ,flsA_succ,List.filter_append,flsA_filt F m,flsE_filt]
theorem chkL_shift {k:Ctl} {d:Int} {L Y:List BR} (h:ShOk d L Y) (hL:∀ x∈L,valE x.2=0) (hY:∀ x∈Y,valE x.2=0) (h1:chkE k L=0) (h2:chkE k Y=0):chkL k Y=(chkL k L).filter (fun v=>decide (v.2=1)):=by
 unfold chkL
 rw[if_pos h1,if_pos h2,←flsA_sort hL,←flsA_sort hY,flsA_filt,h.len]
 exact flsA_congr fun i hi e _=>sh_bad h _ _ e hi
end Go.Proofs.YtednaajanciabaaGreatDoor
