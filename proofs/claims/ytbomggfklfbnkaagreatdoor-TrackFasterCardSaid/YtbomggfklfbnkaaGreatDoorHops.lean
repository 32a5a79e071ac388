import Derived.Test.YtbomggfklfbnkaaGreatDoorHopP
import Derived.Test.YtbomggfklfbnkaaGreatDoorDist
import Derived.Test.YtbomggfklfbnkaaGreatDoorKLists
import Derived.Test.YtbomggfklfbnkaaGreatDoorKRegion
set_option maxRecDepth 100000
set_option maxHeartbeats 8000000
set_option linter.unusedSimpArgs false
set_option linter.unusedVariables false
namespace Go.Proofs.YtbomggfklfbnkaaGreatDoor
open Go.RowKit Go.Grid Go.Maps Go.Sort Go.Shelf
theorem NextR.rd {w:World} {N M base:Nat} {ls:Nat→List Int} (h:NextR w N M base ls):RowsRd w N M ls:=fun a ha=>NextR.row h ha
theorem AroAt.rds {w:World} {N M:Nat} {ls:Nat→List Int} (h:AroAt w N M ls):RowsRd w N M ls:=fun a ha=>AroAt.rd h ha
def Searched (n a:Nat):Prop:=∃ i,(Bfs.st (nbG n) a i).2.length=i
theorem rfrom_any (n a:Nat) (h1:1≤n) (h8:n≤8) (ha:a < (nodesL n).length) (w:World) :
  Calls Tryz.prog 50 #[.int .i64 n,.int .i64 a] w fun e w'=>∃ b,e=.returned (.slice (some ⟨b,0,none⟩) (nodesL n).length (nodesL n).length)∧Searched n a∧FRow w' b (nodesL n).length (hop n a)∧Below w.heap.size w w'∧w.heap.size≤b:=by
 go_enter Tryz.func50,Tryz.ntmps50
 go_wp2_with fail
 refine (raround_any n h1 h8 _).mono ?_
 rintro e w1 ⟨N,rfl,hA,hN,hb⟩
 go_wp2_with fail
 refine (fromlist_any N (nodesL n).length (nodesL n).length a (nextL n) w1 hA.rds (fun i _ x hx=>next_in h1 h8 hx) (fun i=>next_len h1 h8 i) ha (nodes_max h1 h8) (Nat.le_refl _)).mono ?_
 rintro e w2 ⟨i,rfl,hi,hF,hb2⟩
 have HF:=zN (hF.ext (fun k _=>hop_eq h1 h8 ha hi k))
 have HI:Hid (Searched n a):=zN ⟨i,hi⟩
 have HB:=zN (And.intro (hb.trans (hb2.mono hb.size)) hb.size)
 clear hF hi hb hb2 hA
 go_wp2
 go_ret
 exact⟨_,rfl,HI.out,HF.out,HB.out.1,HB.out.2⟩
def HopsI (n a b:Int):Prop:=NodeI n a∧NodeI n b
instance (n a b:Int):Decidable (HopsI n a b):=by unfold HopsI;infer_instance
noncomputable def hopV (n a b:Int):Int:=if HopsI n a b then hop n.toNat a.toNat b.toNat else 0
def hopE (n a b:Int):Int:=if HopsI n a b then 0 else 1
theorem nodeB_t {n:Nat} (h1:1≤n) (h8:n≤8) {i:Nat} (hi:i < (nodesL n).length):NodeI n i:=by
 refine⟨by omega,?_⟩
 rw[(countI_nat h1 h8).1]
 rw[nodes_len h1 h8] at hi
 have e2:(10:Int)*(n:Int)*(n:Int)=((10*n*n:Nat):Int):=by push_cast;rfl
 omega
theorem hop_bd {n a b:Nat} (h1:1≤n) (h8:n≤8) (ha:a < (nodesL n).length) (hb:b < (nodesL n).length) (hex:Searched n a):0≤hop n a b∧hop n a b < 642:=by
 refine⟨hop_nonneg h1 h8 ha hb hex,?_⟩
 obtain⟨i,hi⟩:=hex
 rw[←hop_eq h1 h8 ha hi b]
 have hI:=Bfs.st_inv ha (nbG_lt h1 h8) i (by omega)
 have hl:=Bfs.nodup_le hI.nodup hI.lt
 have hlt:Bfs.Lt (Bfs.st (nbG n) a i):=by
  clear hi hI hl
  induction i with
  |zero=>exact Bfs.Lt.start _ _
  |succ i ih=>
   show Bfs.Lt (match (Bfs.st (nbG n) a i).2[i]? with
    |some u=>((nbG n) u).foldl (Bfs.step u) (Bfs.st (nbG n) a i)
    |none=>Bfs.st (nbG n) a i)
   split
   ·exact ih.row _
   ·exact ih
 have:=hlt b
 have:=nodes_max h1 h8
 omega
theorem rhops_at (n a b:Nat) (h1:1≤n) (h8:n≤8) (ha:a < (nodesL n).length) (hb:b < (nodesL n).length) (w:World) :
  Calls Tryz.prog 26 #[.int .i64 n,.int .i64 a,.int .i64 b] w fun e w'=>e=.returned (.tuple #[.int .i64 (hop n a b),.int .i64 0])∧Searched n a∧Below w.heap.size w w':=by
 have hA:=(nodeB_t h1 h8 ha).2
 have hBB:=(nodeB_t h1 h8 hb).2
 obtain⟨c,hc⟩:∃ c,c=countI (n:Int):=⟨_,rfl⟩
 rw[←hc] at hA hBB
 have HC:=zN hc
 clear hc
 have ha0:(0:Int)≤(a:Int):=by omega
 have hb0:(0:Int)≤(b:Int):=by omega
 go_enter Tryz.func26,Tryz.ntmps26
 go_wp2_with fail
 refine (rcount_any n _).mono ?_
 rintro e w1 ⟨rfl,rfl⟩
 rw[←HC.out]
 go_wp2_with fail
 refine (rcount_any n _).mono ?_
 rintro e w1 ⟨rfl,rfl⟩
 rw[←HC.out]
 go_wp2_with fail
 refine (rfrom_any n a h1 h8 ha _).mono ?_
 rintro e w3 ⟨r,rfl,hS,hF,hb3,_⟩
 obtain⟨c0,_⟩:=hF b hb
 have HK:=zN (And.intro hS hb3)
 generalize (nodesL n).length=M at *
 obtain⟨d,hd⟩:∃ d,d=hop n a b:=⟨_,rfl⟩
 rw[←hd] at c0
 have HD:=zN hd
 clear hd
 have hbM:(b:Int) < (M:Int):=by omega
 clear hb3 hS hF
 go_wp2
 go_ret2
 exact⟨by rw[←HD.out];rfl,HK.out.1,HK.out.2⟩
end Go.Proofs.YtbomggfklfbnkaaGreatDoor
