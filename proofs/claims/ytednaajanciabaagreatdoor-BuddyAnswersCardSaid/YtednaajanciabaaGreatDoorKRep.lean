import Derived.Test.YtednaajanciabaaGreatDoorKRefA
import Derived.Test.YtednaajanciabaaGreatDoorKLoc
import Derived.Test.YtednaajanciabaaGreatDoorKChain
set_option maxRecDepth 100000
set_option maxHeartbeats 8000000
set_option linter.unusedSimpArgs false
set_option linter.unusedVariables false
namespace Go.Proofs.YtednaajanciabaaGreatDoor
open Go.RowKit Go.Grid
structure Rep where
 kind:Int
 name:ByteArray
 time:Int
 f:Int
 a:Int
 b:Int
 c:Int
 rd:Value
def rpv (r:Rep):Value:=.agg #[.int .i64 r.kind,.string r.name,.int .i64 r.time,.int .i64 r.f,.int .i64 r.a,.int .i64 r.b,.int .i64 r.c,r.rd]
def rpc (r:Rep):List Value:=[.int .i64 r.kind,.string r.name,.int .i64 r.time,.int .i64 r.f,.int .i64 r.a,.int .i64 r.b,.int .i64 r.c,r.rd]
def RdOk (r:Rep):Prop:=∃ p n c,r.rd=.slice p n c
def movB (r:Rep):Bool:=r.kind == 2 || r.kind == 3
def ValR (r:Rep):Prop:=ValidI r.f r.a r.b r.c∧0≤r.time∧r.time≤52595999
instance (r:Rep):Decidable (ValR r):=by unfold ValR;infer_instance
def hopB (n:Int):Bool:=decide (0≤n∧n≤1000)
def minB (t:Int):Bool:=decide (0≤t∧t≤52595999)
structure RptAt (w:World) (b o:Nat) (r:Rep):Prop where
 c0:w.cell? ⟨b,o,none⟩=some (.int .i64 r.kind)
 c1:w.cell? ⟨b,o+1,none⟩=some (.string r.name)
 c2:w.cell? ⟨b,o+2,none⟩=some (.int .i64 r.time)
 c3:w.cell? ⟨b,o+3,none⟩=some (.int .i64 r.f)
 c4:w.cell? ⟨b,o+4,none⟩=some (.int .i64 r.a)
 c5:w.cell? ⟨b,o+5,none⟩=some (.int .i64 r.b)
 c6:w.cell? ⟨b,o+6,none⟩=some (.int .i64 r.c)
 c7:w.cell? ⟨b,o+7,none⟩=some r.rd
 rd:RdOk r
theorem RptAt.of_block {w w':World} {b o:Nat} {r:Rep} (h:RptAt w b o r) (hb:w'.heap[b]?=w.heap[b]?):RptAt w' b o r:=
 ⟨(World.cell?_of_block hb).trans h.c0,(World.cell?_of_block hb).trans h.c1,(World.cell?_of_block hb).trans h.c2,(World.cell?_of_block hb).trans h.c3,(World.cell?_of_block hb).trans h.c4,(World.cell?_of_block hb).trans h.c5,(World.cell?_of_block hb).trans h.c6,(World.cell?_of_block hb).trans h.c7,h.rd⟩
theorem RptAt.lt {w:World} {b o:Nat} {r:Rep} (h:RptAt w b o r):b < w.heap.size:=zM w _ h.c0
theorem RptAt.below {w w':World} {b o:Nat} {r:Rep} (h:RptAt w b o r) (hb:Below w.heap.size w w'):RptAt w' b o r:=h.of_block (hb.block b h.lt)
def VecR (w:World) (p:Option Addr) (L:List Rep):Prop:=∃ b o,(0 < L.length→p=some ⟨b,o,none⟩)∧∀ k (h:k < L.length),RptAt w b (o+k*8) L[k]
theorem VecR.below {w w':World} {p:Option Addr} {L:List Rep} (h:VecR w p L) (hb:Below w.heap.size w w'):VecR w' p L:=by
 obtain⟨b,o,h1,h2⟩:=h
 exact⟨b,o,h1,fun k hk=>(h2 k hk).below hb⟩
theorem VecR.turn {w w':World} {p:Option Addr} {L:List Rep} (h:VecR w p L) (hb:∀ a,p=some a→w'.heap[a.block]?=w.heap[a.block]?):VecR w' p L:=by
 obtain⟨b,o,h1,h2⟩:=h
 exact⟨b,o,h1,fun k hk=>(h2 k hk).of_block (hb _ (h1 (by omega)))⟩
theorem VecR.cell {w:World} {p:Option Addr} {L:List Rep} (h:VecR w p L) (h0:0 < L.length):∃ b o,p=some ⟨b,o,none⟩∧b < w.heap.size∧∀ k (h:k < L.length),RptAt w b (o+k*8) L[k]:=by
 obtain⟨b,o,h1,h2⟩:=h
 exact⟨b,o,h1 h0,(h2 0 h0).lt,h2⟩
theorem VecR.nil (w:World) (p:Option Addr):VecR w p []:=⟨0,0,fun h=>absurd h (by simp),fun k hk=>absurd hk (by simp)⟩
theorem VecR.take {w:World} {p:Option Addr} {L:List Rep} (h:VecR w p L) (n:Nat):VecR w p (L.take n):=by
 obtain⟨b,o,h1,h2⟩:=h
 refine⟨b,o,fun h0=>h1 (by rw[List.length_take] at h0;omega),fun k hk=>?_⟩
 rw[List.getElem_take]
 exact h2 k (by rw[List.length_take] at hk;omega)
theorem index_rep (p:Option Addr) (L:List Rep) (cap n:Nat) (w:World) (hl:L.length=n) (hV:VecR w p L) (hn:n≤1000000000) (g:FuncId) (t:Rep→Bool)
  (hen:∀ args w,(callFunc g args).run Tryz.prog w=.ok (.enter g args) w)
  (hq:∀ x∈L,∀ w',Below w.heap.size w w'→Calls Tryz.prog g #[rpv x] w' fun e w''=>e=.returned (.bool (t x))∧Below w'.heap.size w' w'') :
  Calls Tryz.prog 81 #[.slice p n cap,.func (.func g) #[] #[]] w fun e w'=>∃ r:Int,e=.returned (.int .i64 r)∧-1≤r∧decide (0≤r)=L.any t∧Below w.heap.size w w':=by
 have HQ:=zN hq
 have HV:=zN hV
 have HL:=zN hl
 clear hq hV hl
 go_enter Tryz.func81,Tryz.ntmps81
 go_wp2
 go_loopw [8] (fun a wr=>∃ k:Nat,k≤n∧a=.int .i64 (k:Int)∧Hid (∀ j (hj:j < k) (h:j < L.length),t L[j]=false)∧Below w.heap.size w wr) (fun a _=>n-(intOf a).toNat)
 case atStart=>exact⟨0,Nat.zero_le _,rfl,zN fun j hj=>by omega,zBr _ _⟩
 case round=>
  obtain⟨k,hk,rfl,HI,hb⟩:=hrel
  by_cases hlt:k < n
  ·have hltL:k < L.length:=by rw[HL.out];exact hlt
   obtain⟨b,o,rfl,hbl,hcell⟩:=HV.out.cell (by omega)
   have hck:=(hcell k hltL).below hb
   have hdk:decide ((k:Int) < (n:Int))=true:=zDt (by omega)
   have hk0:(0:Int)≤(k:Int):=by omega
   have hkI:(k:Int) < (n:Int):=by omega
   have HK:=zN (HQ.out L[k] (List.getElem_mem _) wr hb)
   obtain⟨x,hx⟩:∃ x,x=L[k]:=⟨_,rfl⟩
   rw[←hx] at hck HK
   have HX:=zN hx
   obtain⟨k0,k1,k2,k3,k4,k5,k6,k7,_⟩:=hck
   clear hx hcell
   go_wp2_with fail
   refine HK.out.mono ?_
   rintro e w1 ⟨rfl,hb1⟩
   have hb2:Below w.heap.size w w1:=hb.trans (hb1.mono hb.size)
   clear hb hb1 HK k0 k1 k2 k3 k4 k5 k6 k7
   cases he:t x
   ·have HE:=zN he
    clear he
    go_wp2
    go_roundw
    case rel=>exact⟨k+1,by omega,by go_num,zN fun j hj hd=>by
     by_cases hjk:j=k
     ·subst hjk;rw[←HX.out];exact HE.out
     ·exact HI.out j (by omega) hd,hb2⟩
    case measure=>simp[intOf];omega
   ·have HE:=zN he
    clear he
    go_wp2
    go_ret
    refine⟨(k:Int),rfl,by omega,?_,hb2⟩
    have h1:L.any t=true:=List.any_eq_true.2 ⟨L[k],List.getElem_mem _,by rw[←HX.out];exact HE.out⟩
    rw[h1];exact zDt (by omega)
  ·obtain rfl:k=n:=by omega
   have hdk:decide ((k:Int) < (k:Int))=false:=zDf (by omega)
   go_wp2
   go_ret
   refine⟨-1,rfl,by omega,?_,hb⟩
   have h1:L.any t=false:=List.any_eq_false.2 (fun x hx=>by
    obtain⟨j,hj,rfl⟩:=List.getElem_of_mem hx
    rw[HI.out j (by rw[HL.out] at hj;exact hj) hj];simp)
   rw[h1];rfl
theorem contains_rep (p:Option Addr) (L:List Rep) (cap n:Nat) (w:World) (hl:L.length=n) (hV:VecR w p L) (hn:n≤1000000000) (g:FuncId) (t:Rep→Bool)
  (hen:∀ args w,(callFunc g args).run Tryz.prog w=.ok (.enter g args) w)
  (hq:∀ x∈L,∀ w',Below w.heap.size w w'→Calls Tryz.prog g #[rpv x] w' fun e w''=>e=.returned (.bool (t x))∧Below w'.heap.size w' w'') :
  Calls Tryz.prog 59 #[.slice p n cap,.func (.func g) #[] #[]] w fun e w'=>e=.returned (.bool (L.any t))∧Below w.heap.size w w':=by
 have HI:=zN (index_rep p L cap n w hl hV hn g t hen hq)
 clear hl hV hq hen
 go_enter Tryz.func59,Tryz.ntmps59
 go_wp2_with fail
 refine HI.out.mono ?_
 rintro e w1 ⟨r,rfl,hr,hd,hb⟩
 clear HI
 by_cases h0:0≤r
 ·have h1:L.any t=true:=by rw[←hd];exact zDt h0
  have H1:=zN h1
  clear hd h1
  go_wp2
  go_ret
  exact⟨by rw[H1.out];simp[h0],hb⟩
 ·have h1:L.any t=false:=by rw[←hd];exact zDf h0
  have H1:=zN h1
  clear hd h1
  go_wp2
  go_ret
  exact⟨by rw[H1.out];simp[h0],hb⟩
end Go.Proofs.YtednaajanciabaaGreatDoor
