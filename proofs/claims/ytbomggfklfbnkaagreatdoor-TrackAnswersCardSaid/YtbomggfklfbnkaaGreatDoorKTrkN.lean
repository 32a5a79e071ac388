import Derived.Test.YtbomggfklfbnkaaGreatDoorKTrkU
import Derived.Test.YtbomggfklfbnkaaGreatDoorKLinV
import Derived.Deep.AppendSrc
set_option maxRecDepth 100000
set_option maxHeartbeats 8000000
set_option linter.unusedSimpArgs false
set_option linter.unusedVariables false
namespace Go.Proofs.YtbomggfklfbnkaaGreatDoor
open Go.RowKit Go.Grid Go.Maps Go.Sort Go.Shelf Go.Chain
noncomputable def soneL (n:Int) (l:List Rep):List Nat:=(List.range l.length).filter (fun i=>!(chainP (relP n l) l.length).contains i)
def ren (t:ByteArray) (l:List Rep):List Rep:=l.map (fun r=>{ r with name:=t })
def renK (t:ByteArray) (k:Nat) (l:List Rep):List Rep:=ren t (l.take k) ++ l.drop k
theorem renK_len (t:ByteArray) {k:Nat} {l:List Rep} (h:k≤l.length):(renK t k l).length=l.length:=by
 unfold renK ren;rw[List.length_append,List.length_map,List.length_take,List.length_drop];omega
theorem renK_get (t:ByteArray) {k:Nat} {l:List Rep} (h:k≤l.length) {i:Nat} (hi:i < l.length):(renK t k l)[i]'(by rw[renK_len t h];exact hi)=if i < k then { l[i] with name:=t } else l[i]:=by
 unfold renK ren
 rw[List.getElem_append]
 by_cases hik:i < k
 ·rw[dif_pos (by rw[List.length_map,List.length_take];omega),if_pos hik,List.getElem_map,List.getElem_take]
 ·rw[dif_neg (by rw[List.length_map,List.length_take];omega),if_neg hik,List.getElem_drop]
  congr 1
  rw[List.length_map,List.length_take];omega
theorem pick_any (w:World) (g b n i N:Nat) (zs:List Int) (m cap:Nat) (hm:zs.length=m) (h0:0 < m) (h1:m≤1000) (h:SrcAt w g b n i) (hz:∀ j (h:j < zs.length),w.cell? ⟨N,j,none⟩=some (.int .i64 zs[j])) (hN:N≠g) :
  Calls Tryz.prog 12 #[.pointer (some ⟨g,0,none⟩),.slice (some ⟨N,0,none⟩) m cap] w fun e w'=>∃ x:Int,e=.returned (.int .i64 x)∧x∈zs∧w.grownBy w' (some g)∧∃ j,SrcAt w' g b n j:=by
 go_enter Tryz.func12,Tryz.ntmps12
 go_wp2_with fail
 refine (srcN_any w g b n i m h (by omega) (by omega)).mono ?_
 rintro e w1 ⟨x,rfl,hx0,hx1,hg1,hS⟩
 obtain⟨k,rfl⟩:=Int.eq_ofNat_of_zero_le hx0
 have hk:k < zs.length:=by omega
 have hS1:=zN hS
 have hG1:=zN hg1
 have kk:=hg1.cell (hz k hk) (by simpa using hN)
 have HX:=zN (List.getElem_mem hk)
 generalize zs[k]=z at kk HX
 clear hS hg1 h hz hm hk
 go_wp2
 go_ret
 exact⟨z,rfl,HX.out,hG1.out,hS1.out⟩
theorem VecR.name {w:World} {b:Nat} {l:List Rep} {t:ByteArray} {k:Nat} (h:VecR w (some ⟨b,0,none⟩) (renK t k l)) (hk:k < l.length):VecR (w.setCell ⟨b,k*8+1,none⟩ (.string t)) (some ⟨b,0,none⟩) (renK t (k+1) l):=by
 obtain⟨b',o',h1,h2⟩:=h
 have hl:=renK_len t (Nat.le_of_lt hk)
 have hl':=renK_len t (k:=k+1) (l:=l) (by omega)
 have e:=h1 (by omega)
 injection e with e
 injection e with e1 e2
 subst e1 e2
 refine⟨b,0,fun _=>rfl,fun i hi=>?_⟩
 rw[hl'] at hi
 have h3:=h2 i (by omega)
 rw[renK_get t (by omega) hi] at h3
 rw[renK_get t (by omega) hi]
 have hoth:∀ c (v:Value),¬ (i=k∧c=1)→c < 8→w.cell? ⟨b,0+i*8+c,none⟩=some v→(w.setCell ⟨b,k*8+1,none⟩ (.string t)).cell? ⟨b,0+i*8+c,none⟩=some v:=fun c v hc h8 hv=>by
  rw[zK _ _ _ _ (by intro e;injection e with _ e2;omega)]
  exact hv
 by_cases hik:i=k
 ·subst hik
  rw[if_neg (Nat.lt_irrefl _)] at h3
  rw[if_pos (Nat.lt_succ_self _)]
  refine⟨hoth 0 _ (by omega) (by omega) h3.c0,?_,hoth 2 _ (by omega) (by omega) h3.c2,hoth 3 _ (by omega) (by omega) h3.c3,hoth 4 _ (by omega) (by omega) h3.c4,hoth 5 _ (by omega) (by omega) h3.c5,hoth 6 _ (by omega) (by omega) h3.c6,hoth 7 _ (by omega) (by omega) h3.c7,h3.rd⟩
  rw[Nat.zero_add]
  have:=h3.c1
  rw[Nat.zero_add] at this
  exact zL _ _ _ (by rw[this];rfl)
 ·have e3:(if i < k+1 then { l[i] with name:=t } else l[i])=(if i < k then { l[i] with name:=t } else l[i]):=by
   by_cases h4:i < k
   ·rw[if_pos h4,if_pos (by omega)]
   ·rw[if_neg h4,if_neg (by omega)]
  rw[e3]
  exact⟨hoth 0 _ (by omega) (by omega) h3.c0,hoth 1 _ (by omega) (by omega) h3.c1,hoth 2 _ (by omega) (by omega) h3.c2,hoth 3 _ (by omega) (by omega) h3.c3,hoth 4 _ (by omega) (by omega) h3.c4,hoth 5 _ (by omega) (by omega) h3.c5,hoth 6 _ (by omega) (by omega) h3.c6,hoth 7 _ (by omega) (by omega) h3.c7,h3.rd⟩
open Go.RowKit Go.Grid
theorem VecR.news {w:World} {p:Option Addr} {L:List Rep} {m:Nat} (h:VecR w p L) (hm:L.length=m):0 < m→∃ ad,p=some ad∧∀ j u,(L.flatMap rpc)[j]?=some u→w.cell? (ad.add j)=some u:=by
 intro h0
 obtain⟨b,o,h1,h2⟩:=h
 refine⟨_,h1 (by omega),fun j u hj=>?_⟩
 have hlt:j < L.length*8:=by
  rw[←rps_len]
  exact (List.getElem?_eq_some_iff.1 hj).1
 have e:j=j / 8*8+j % 8:=by omega
 have hk:j / 8 < L.length:=by omega
 have h8:j % 8 < 8:=by omega
 rw[e,rps_get L _ hk _ h8] at hj
 rw[Addr.add_lit,e]
 have hr:=h2 _ hk
 generalize j / 8=k at *
 generalize j % 8=c at *
 rw[←zQ]
 match c,h8 with
 |0,_=>rw[←hj];exact hr.c0
 |1,_=>rw[←hj];exact hr.c1
 |2,_=>rw[←hj];exact hr.c2
 |3,_=>rw[←hj];exact hr.c3
 |4,_=>rw[←hj];exact hr.c4
 |5,_=>rw[←hj];exact hr.c5
 |6,_=>rw[←hj];exact hr.c6
 |7,_=>rw[←hj];exact hr.c7
end Go.Proofs.YtbomggfklfbnkaaGreatDoor
