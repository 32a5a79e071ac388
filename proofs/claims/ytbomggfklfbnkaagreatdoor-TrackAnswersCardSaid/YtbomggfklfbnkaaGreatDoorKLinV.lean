import Derived.Test.YtbomggfklfbnkaaGreatDoorKCodes
import Derived.Test.YtbomggfklfbnkaaGreatDoorKPrec
import Derived.Test.YtbomggfklfbnkaaGreatDoorKLin
set_option maxRecDepth 100000
set_option maxHeartbeats 8000000
set_option linter.unusedSimpArgs false
set_option linter.unusedVariables false
namespace Go.Proofs.YtbomggfklfbnkaaGreatDoor
open Go.RowKit
def halvesL (zs:List Int):List Int:=zs.map (fun x=>x.tdiv 2)
theorem kints_len (p q:Option Addr) (zs ys:List Int) (cz cy:Nat) (w:World) (hV:VecAt w p zs) (hU:VecAt w q ys) (hlen:zs.length=ys.length) (hl:zs.length≤1000000000) :
  Calls Tryz.prog 18 #[.slice p zs.length cz,.slice q zs.length cy] w fun e w'=>e=.returned (.bool (decide (zs=ys)))∧Below w.heap.size w w':=by
 have HE:Hid ((∀ k (h:k < zs.length) (h2:k < ys.length),zs[k]=ys[k])→decide (zs=ys)=true):=zN (fun h=>zDt (List.ext_getElem hlen (fun k h1 h2=>h k h1 h2)))
 have HF:Hid (∀ k (h:k < zs.length) (h2:k < ys.length),zs[k]≠ys[k]→decide (zs=ys)=false):=zN (fun k h h2 hne=>zDf (fun e=>hne (by subst e;rfl)))
 have HV:=zN (And.intro hV (And.intro hU hlen))
 clear hV hU
 obtain⟨n,hn⟩:∃ n,n=zs.length:=⟨_,rfl⟩
 have hny:n=ys.length:=hn.trans hlen
 have HN:=zN (And.intro hn hny)
 rw[←hn] at hl ⊢
 clear hn hny hlen
 go_enter Tryz.func18,Tryz.ntmps18
 go_wp2
 go_loopw [5] (fun i wr=>∃ k:Nat,k≤n∧i=.int .i64 k∧Hid (∀ j (h:j < zs.length) (h2:j < ys.length),j < k→zs[j]=ys[j])∧Below w.heap.size w wr) (fun i _=>n-(intOf i).toNat)
 case atStart=>exact⟨0,by omega,rfl,zN (fun j _ _ h=>by omega),zBr _ _⟩
 case round=>
  obtain⟨k,hk,rfl,HX,hB⟩:=hrel
  by_cases hlt:k < n
  ·have hdk:decide ((k:Int) < (n:Int))=true:=zDt (by omega)
   have h1:k < zs.length:=by rw[←HN.out.1];exact hlt
   have h2:k < ys.length:=by rw[←HN.out.2];exact hlt
   obtain⟨b,o,rfl,hbl,hcell⟩:=HV.out.1.cell (by omega)
   obtain⟨c,o2,rfl,hcl,hcell2⟩:=HV.out.2.1.cell (by omega)
   have ck:=zP hB (hcell k h1)
   have dk:=zP hB (hcell2 k h2)
   have HNE:=HF.out k h1 h2
   obtain⟨x,hx⟩:∃ x,x=zs[k]:=⟨_,rfl⟩
   obtain⟨u,hu⟩:∃ u,u=ys[k]:=⟨_,rfl⟩
   rw[←hx] at ck HNE
   rw[←hu] at dk HNE
   have HXU:=zN (And.intro hx hu)
   clear hx hu hcell hcell2
   by_cases he:x=u
   ·subst he
    clear HNE
    go_wp2
    refine RX.region RX.fN (fun w'=>w'=_) (by kernel_rfl) (by kernel_rfl) rfl (fun OPS HO QR hQR=>?_)
    repeat (refine zeX (fun R hR=>?_);(first|refine zaX (by first|rfl|(rw[HO.out];rfl)) (by simp only[zA,zB,zC,zD];rfl) ?_|refine zbX (by first|rfl|(rw[HO.out];rfl)) rfl (by first|exact .inl rfl|exact .inr rfl) (by simp only[zE,zF,zG,zH];rfl) (by simp only[zA,zB,zC,zD];rfl) ?_|refine zcX (by first|rfl|(rw[HO.out];rfl)) rfl rfl (by simp only[zE,zF,zG,zH];rfl) (by simp only[zA,zB,zC,zD];rfl) ?_|(refine zdX (by first|rfl|(rw[HO.out];rfl)) rfl rfl rfl ?_;apply zEx;apply zEx;refine⟨fun w' hS K hK=>?_,?_,?_⟩;(focus (subst hS;go_wp2;exact hK _ _ (by simp only[zl,zG,zH];first|exact zf (by omega)|exact zg (by omega)|exact zh (by omega)|exact zi (by omega)|exact zj (by omega)|exact zk (by omega)|exact RX.bneB _|rfl) rfl));(focus (simp only[zA,zB,zC,zD];rfl))));refine hR _ _ ?_;clear hR R)
    refine RX.wpL_nil (hQR _ _ rfl ?_);clear hQR QR HO OPS
    go_wp2
    go_roundw
    case rel=>exact⟨k+1,by omega,by go_num,zN (fun j h3 h4 h=>by
     by_cases hj:j=k
     ·subst hj;rw[←HXU.out.1,←HXU.out.2]
     ·exact HX.out j h3 h4 (by omega)),hB.drew⟩
    case measure=>simp[intOf];omega
   ·have hne:=HNE he
    have HNE2:=zN hne
    clear HNE hne
    have hb:(x == u)=false:=by rw[beq_eq_false_iff_ne];exact he
    have hb2:(x != u)=true:=by simp[he]
    go_wp2
    refine RX.region RX.fN (fun w'=>w'=_) (by kernel_rfl) (by kernel_rfl) rfl (fun OPS HO QR hQR=>?_)
    repeat (refine zeX (fun R hR=>?_);(first|refine zaX (by first|rfl|(rw[HO.out];rfl)) (by simp only[zA,zB,zC,zD];rfl) ?_|refine zbX (by first|rfl|(rw[HO.out];rfl)) rfl (by first|exact .inl rfl|exact .inr rfl) (by simp only[zE,zF,zG,zH];rfl) (by simp only[zA,zB,zC,zD];rfl) ?_|refine zcX (by first|rfl|(rw[HO.out];rfl)) rfl rfl (by simp only[zE,zF,zG,zH];rfl) (by simp only[zA,zB,zC,zD];rfl) ?_|(refine zdX (by first|rfl|(rw[HO.out];rfl)) rfl rfl rfl ?_;apply zEx;apply zEx;refine⟨fun w' hS K hK=>?_,?_,?_⟩;(focus (subst hS;go_wp2;exact hK _ _ (by simp only[zl,zG,zH];first|exact zf (by omega)|exact zg (by omega)|exact zh (by omega)|exact zi (by omega)|exact zj (by omega)|exact zk (by omega)|exact RX.bneB _|rfl) rfl));(focus (simp only[zA,zB,zC,zD];rfl))));refine hR _ _ ?_;clear hR R)
    refine RX.wpL_nil (hQR _ _ rfl ?_);clear hQR QR HO OPS
    go_wp2
    go_ret
    rw[HNE2.out]
    exact⟨rfl,hB.drew⟩
  ·have hdk:decide ((k:Int) < (n:Int))=false:=zDf (by omega)
   obtain rfl:k=n:=by omega
   have HT:=zN (HE.out (fun j h h2=>HX.out j h h2 (by rw[HN.out.1];exact h)))
   go_wp2
   go_ret
   rw[HT.out]
   exact⟨rfl,hB⟩
end Go.Proofs.YtbomggfklfbnkaaGreatDoor
