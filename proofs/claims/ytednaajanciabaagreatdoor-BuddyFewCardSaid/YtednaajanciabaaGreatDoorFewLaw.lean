import Derived.Test.YtednaajanciabaaGreatDoorKBAwk
import Derived.Test.YtednaajanciabaaGreatDoorKBCtl
set_option maxRecDepth 100000
set_option maxHeartbeats 8000000
set_option linter.unusedSimpArgs false
set_option linter.unusedVariables false
namespace Go.Proofs.YtednaajanciabaaGreatDoor
open Go.RowKit Go.Grid Go.Buddy
def FewOk (L:List BR):Prop:=∀ x∈L,vaB x.1=true∧valE x.2=0
theorem FewOk.set {L:List BR} (h:FewOk L) {i:Nat} {x:BR} (hx:vaB x.1=true∧valE x.2=0):FewOk (L.set i x):=fun y hy=>by
 rcases List.mem_or_eq_of_mem_set hy with h1|h1
 ·exact h y h1
 ·rw[h1];exact hx
theorem vaB_congr {r s:Rep} (h:vaB s=true) (h1:r.f=s.f) (h2:r.a=s.a) (h3:r.b=s.b) (h4:r.c=s.c):vaB r=true:=by
 unfold vaB at h ⊢
 rw[h1,h2,h3,h4];exact h
def rePl (r s:Rep) (nm:ByteArray):Rep:=⟨r.kind,nm,r.time,s.f,s.a,s.b,s.c,r.rd⟩
theorem CrRow.four {w:World} {base b n cap:Nat} {L:List BR} (h:CrRow w base (.slice (some ⟨b,0,none⟩) n cap) L) (hn:L.length=n) {i:Nat} (hi:i < L.length) (f a b' c:Int) :
  CrRow ((((w.setCell ⟨b,i*8+3,none⟩ (.int .i64 f)).setCell ⟨b,i*8+4,none⟩ (.int .i64 a)).setCell ⟨b,i*8+5,none⟩ (.int .i64 b')).setCell ⟨b,i*8+6,none⟩ (.int .i64 c)) base (.slice (some ⟨b,0,none⟩) n cap) (L.set i (⟨L[i].1.kind,L[i].1.name,L[i].1.time,f,a,b',c,L[i].1.rd⟩,L[i].2)):=by
 have h1:=h.put hn (i:=i) (c:=3) (u:=.int .i64 f) (r':=⟨L[i].1.kind,L[i].1.name,L[i].1.time,f,L[i].1.a,L[i].1.b,L[i].1.c,L[i].1.rd⟩) hi (by omega) rfl rfl
 have hl:∀ x:BR,(L.set i x).length=n:=fun x=>by rw[List.length_set];exact hn
 have hg:∀ x:BR,∀ hh:i < (L.set i x).length,(L.set i x)[i]=x:=fun x hh=>by simp
 have h2:=h1.put (hl _) (i:=i) (c:=4) (u:=.int .i64 a) (r':=⟨L[i].1.kind,L[i].1.name,L[i].1.time,f,a,L[i].1.b,L[i].1.c,L[i].1.rd⟩) (by rw[hl];omega) (by omega) (by rw[hg];rfl) (by rw[hg])
 simp only[hg,List.set_set] at h2
 have h3:=h2.put (hl _) (i:=i) (c:=5) (u:=.int .i64 b') (r':=⟨L[i].1.kind,L[i].1.name,L[i].1.time,f,a,b',L[i].1.c,L[i].1.rd⟩) (by rw[hl];omega) (by omega) (by rw[hg];rfl) (by rw[hg])
 simp only[hg,List.set_set] at h3
 have h4:=h3.put (hl _) (i:=i) (c:=6) (u:=.int .i64 c) (r':=⟨L[i].1.kind,L[i].1.name,L[i].1.time,f,a,b',c,L[i].1.rd⟩) (by rw[hl];omega) (by omega) (by rw[hg];rfl) (by rw[hg])
 simp only[hg,List.set_set] at h4
 exact h4
theorem tmod3 (i:Nat):∃ r:Nat,r < 3∧(i:Int).tmod 3=(r:Int):=⟨i % 3,Nat.mod_lt _ (by decide),by rw[Int.tmod_eq_emod_of_nonneg (by omega)];omega⟩
theorem few_law (W:World) (q:Option Addr) (cap:Nat) (Z:List Int) (hV:VecAt W q Z) (hI:I64L Z) (hl:Z.length≤cap) (hc:cap≤9223372036854775807) (hT:HasTab W) (hB:HasBnd W) :
  Calls Tryz.prog 8 #[.slice q Z.length cap] W fun e w'=>e=.returned (.bool true)∧Below W.heap.size W w':=by
 go_enter Tryz.func8,Tryz.ntmps8
 go_wp2_with fail
 refine (knew_any q cap Z W hV hI hl hc).mono ?_
 rintro e w1 ⟨rfl,hb,b,hblt,hs⟩
 clear hV hI
 have HT:=zN hT
 have HBN:=zN hB
 generalize min Z.length 2000=N at *
 obtain⟨g,hg⟩:∃ g,g=W.heap.size:=⟨_,rfl⟩
 rw[←hg] at hs hblt ⊢
 have HG:=zN hg
 have HB1:=zN hb
 have HBL:=zN hblt
 have hg1:=hs.lt
 clear hg hT hB hl hc hb hblt
 go_wp2_with fail
 refine (crowd_any w1 g b N 0 hs 12 (by omega) 14000000 (by omega) (by omega)).mono ?_
 rintro e w2 ⟨v,L,rfl,hrow,hok,hlen,hg2,hs2⟩
 obtain⟨p,cp,rfl,hcp,_,hpb⟩:=hrow.form
 have HB2s:Hid (w1.heap.size≤w2.heap.size):=zN hg2.size
 have HB2:=zN (HB1.out.grown hg2 HB1.out.size (fun k hk=>by injection hk with hk;have:=HG.out;omega))
 have HS2:=zN hs2
 have HROW:=zN hrow
 have HOK:Hid (FewOk L):=zN (fun x hx=>⟨(hok x hx).va,(hok x hx).ve⟩)
 have HPB:=zN hpb
 obtain⟨m,hm⟩:∃ m,m=L.length:=⟨_,rfl⟩
 have hm12:m≤12:=by omega
 rw[←hm] at HROW HPB hcp ⊢
 have HM:=zN hm.symm
 clear hrow hok hlen hg2 hs2 hs hpb hm
 go_wp2
 go_loopw [18] (fun v18 wr=>∃ (k:Nat) (L:List BR),k≤m∧v18=.int .i64 (k:Int)∧Hid (CrRow wr w1.heap.size (.slice p m cp) L∧L.length=m∧FewOk L∧(∃ i,SrcAt wr g b N i)∧Below W.heap.size W wr∧w2.heap.size≤wr.heap.size)) (fun v18 _=>m-(intOf v18).toNat)
 case atStart=>exact⟨0,L,by omega,rfl,zN ⟨HROW.out,HM.out,HOK.out,HS2.out,HB2.out,Nat.le_refl _⟩⟩
 case round=>
  clear HROW HOK HS2 HB2 HM
  obtain⟨k,X,hkm,rfl,HH⟩:=hrel
  by_cases hk:k < m
  ·have hdk:decide ((k:Int) < (m:Int))=true:=zDt (by omega)
   have hk0:(0:Int)≤(k:Int):=by omega
   have hk1:(k:Int) < (m:Int):=by omega
   have hm0:(0:Int) < (m:Int):=by omega
   obtain⟨pb,rfl,hpb1,hpb2⟩:=HPB.out (by omega)
   obtain⟨hrow,hxm,hfx,⟨ix,hsx⟩,hbx,hsz⟩:=HH.out
   have hkx:k < X.length:=by omega
   have c1:=RepRow.cell8 hrow.row (i:=k) (c:=1) (by rw[List.length_map];exact hkx) (by omega) rfl
   have f1:=RepRow.soft8 hrow.row (k*8+1)
   obtain⟨r,hr3,hrm⟩:=tmod3 k
   have HP1:Hid (∀ s,CrRow (wr.setCell ⟨pb,k*8+1,none⟩ (.string s)) w1.heap.size (.slice (some ⟨pb,0,none⟩) m cp) (X.set k (⟨X[k].1.kind,s,X[k].1.time,X[k].1.f,X[k].1.a,X[k].1.b,X[k].1.c,X[k].1.rd⟩,X[k].2))):=zN (fun s=>hrow.put hxm (i:=k) (c:=1) (u:=.string s) (r':=⟨X[k].1.kind,s,X[k].1.time,X[k].1.f,X[k].1.a,X[k].1.b,X[k].1.c,X[k].1.rd⟩) hkx (by omega) rfl rfl)
   have HF1:Hid (∀ s,FewOk (X.set k (⟨X[k].1.kind,s,X[k].1.time,X[k].1.f,X[k].1.a,X[k].1.b,X[k].1.c,X[k].1.rd⟩,X[k].2))):=zN (fun s=>hfx.set ⟨vaB_congr (hfx X[k] (List.getElem_mem hkx)).1 rfl rfl rfl rfl,(hfx X[k] (List.getElem_mem hkx)).2⟩)
   have HXM:=zN hxm
   have hpbl:pb < wr.heap.size:=by omega
   have HGP:Hid (W.heap.size≤pb):=zN (by have:=HB1.out.size;omega)
   have hgp:g≠pb:=by omega
   have hbp:0 < N→b≠pb:=fun h0=>by have:=HBL.out h0;omega
   have HSX:=zN (fun (s:ByteArray)=>hsx.other (k:=pb) (j:=k*8+1) (v:=.string s) hgp hbp)
   have HBX:=zN hbx
   clear hrow hxm hfx hsx hbx HH
   go_upto_region 6 with fail
   go_cut [5] from 21 to 30 (fun v5 wx=>v5=.int .i64 (k:Int)∧Hid (∃ X,CrRow wx w1.heap.size (.slice (some ⟨pb,0,none⟩) m cp) X∧X.length=m∧FewOk X∧(∃ i,SrcAt wx g b N i)∧Below W.heap.size W wx∧w2.heap.size≤wx.heap.size))
   case first=>
    have hr:r=0∨r=1∨r=2:=by omega
    clear hr3
    rcases hr with rfl|rfl|rfl
    all_goals (
     go_wp2
     go_meet
     case rel=>exact⟨rfl,zN ⟨_,(HP1.out _).below ((zBr _ _).alloc (Nat.le_refl _) _),by rw[List.length_set];exact HXM.out,HF1.out _,⟨ix,(HSX.out _).below ((zBr _ _).alloc (Nat.le_refl _) _)⟩,(zBs HBX.out HGP.out _).alloc (by simp;exact HBX.out.size) _,by simp;omega⟩⟩)
   case rest=>
    obtain⟨rfl,HH⟩:=hcut
    clear c1 f1 HP1 HF1 HSX HBX HXM hkx hsz hpbl hrm hr3
    clear X
    obtain⟨X,hrow,hxm,hfx,⟨i2,hsx⟩,hbx,hsz⟩:=HH.out
    have hkx:k < X.length:=by omega
    have h0x:0 < X.length:=by omega
    generalize wc=w6 at *
    have q3:=RepRow.cell8 hrow.row (i:=0) (c:=3) (by rw[List.length_map];exact h0x) (by omega) rfl
    have q4:=RepRow.cell8 hrow.row (i:=0) (c:=4) (by rw[List.length_map];exact h0x) (by omega) rfl
    have q5:=RepRow.cell8 hrow.row (i:=0) (c:=5) (by rw[List.length_map];exact h0x) (by omega) rfl
    have q6:=RepRow.cell8 hrow.row (i:=0) (c:=6) (by rw[List.length_map];exact h0x) (by omega) rfl
    rw[Nat.zero_mul,Nat.zero_add] at q3 q4 q5 q6
    have c3:=RepRow.cell8 hrow.row (i:=k) (c:=3) (by rw[List.length_map];exact hkx) (by omega) rfl
    have c4:=RepRow.cell8 hrow.row (i:=k) (c:=4) (by rw[List.length_map];exact hkx) (by omega) rfl
    have c5:=RepRow.cell8 hrow.row (i:=k) (c:=5) (by rw[List.length_map];exact hkx) (by omega) rfl
    have c6:=RepRow.cell8 hrow.row (i:=k) (c:=6) (by rw[List.length_map];exact hkx) (by omega) rfl
    have f3:=RepRow.soft8 hrow.row (k*8+3)
    have f4:=RepRow.soft8 hrow.row (k*8+4)
    have f5:=RepRow.soft8 hrow.row (k*8+5)
    have f6:=RepRow.soft8 hrow.row (k*8+6)
    simp only[List.getElem_map] at q3 q4 q5 q6 c3 c4 c5 c6
    have hfo:=(hfx X[0] (List.getElem_mem h0x)).1
    have hfk:=(hfx X[k] (List.getElem_mem hkx)).2
    obtain⟨xf,hxf⟩:∃ x,x=X[0].1.f:=⟨_,rfl⟩
    obtain⟨xa,hxa⟩:∃ x,x=X[0].1.a:=⟨_,rfl⟩
    obtain⟨xb,hxb⟩:∃ x,x=X[0].1.b:=⟨_,rfl⟩
    obtain⟨xc,hxc⟩:∃ x,x=X[0].1.c:=⟨_,rfl⟩
    have HCR:=zN (hrow.four hxm hkx xf xa xb xc)
    have HFO:Hid (FewOk (X.set k (⟨X[k].1.kind,X[k].1.name,X[k].1.time,xf,xa,xb,xc,X[k].1.rd⟩,X[k].2))):=zN (hfx.set ⟨vaB_congr hfo hxf hxa hxb hxc,hfk⟩)
    rw[←hxf] at q3
    rw[←hxa] at q4
    rw[←hxb] at q5
    rw[←hxc] at q6
    have HXM:=zN hxm
    have HGR:=zN (And.intro hsx hbx)
    have hsw:w2.heap.size≤w6.heap.size:=hsz
    clear hrow hxm hfx hsx hbx hfo hfk hxf hxa hxb hxc HH
    go_wp2
    have hs6:∃ i,SrcAt ((((w6.setCell ⟨pb,k*8+3,none⟩ (.int .i64 xf)).setCell ⟨pb,k*8+4,none⟩ (.int .i64 xa)).setCell ⟨pb,k*8+5,none⟩ (.int .i64 xb)).setCell ⟨pb,k*8+6,none⟩ (.int .i64 xc)) g b N i:=⟨i2,(((HGR.out.1.other hgp hbp).other hgp hbp).other hgp hbp).other hgp hbp⟩
    have hb6:Below W.heap.size W ((((w6.setCell ⟨pb,k*8+3,none⟩ (.int .i64 xf)).setCell ⟨pb,k*8+4,none⟩ (.int .i64 xa)).setCell ⟨pb,k*8+5,none⟩ (.int .i64 xb)).setCell ⟨pb,k*8+6,none⟩ (.int .i64 xc)):=zBs (zBs (zBs (zBs HGR.out.2 HGP.out _) HGP.out _) HGP.out _) HGP.out _
    go_roundw
    case rel=>exact⟨k+1,_,by omega,by go_num,zN ⟨HCR.out,by rw[List.length_set];exact HXM.out,HFO.out,hs6,hb6,by simpa using hsw⟩⟩
    case measure=>simp[intOf]<;>omega
  ·have hdk:decide ((k:Int) < (m:Int))=false:=zDf (by omega)
   obtain rfl:k=m:=by omega
   obtain⟨hrow,hxm,hfx,⟨ix,hsx⟩,hbx,hsz⟩:=HH.out
   have HRW:=zN hrow
   have HFX:=zN hfx
   have HXM:=zN hxm
   have HBX:=zN hbx
   have hgl:=hsx.lt
   clear HH hrow hfx hxm hbx
   generalize wr=w5 at *
   go_wp2_with fail
   refine (control_any w5 g b N ix hsx).mono ?_
   rintro e w6 ⟨kc,rfl,hko,hg6,i6,hs6⟩
   have HB6:=zN (HBX.out.grown hg6 HBX.out.size (fun k hk=>by injection hk with hk;have:=HG.out;omega))
   have hw1g:g < w1.heap.size:=hg1
   have HR6:=zN (HRW.out.kept (some g) hg6 (fun k e=>.inl (by injection e with e;omega)))
   have HKO:=zN hko
   have HS6:=zN hs6
   have hsz6:w1.heap.size≤w6.heap.size:=by have:=hg6.size;have:=HB2s.out;omega
   clear hko hg6 hsx HRW HBX hs6
   have HZN:=zN (CtlAt.new w6 ⟨0,fun _=>0,fun _=>0,0,fun _=>0,0,0,0⟩)
   have HZB:Hid (Below w6.heap.size w6 (w6.alloc (.cells #[.int .i64 0,.int .i64 0,.int .i64 0,.int .i64 0,.int .i64 0,.int .i64 0,.int .i64 0,.int .i64 0,.int .i64 0,.int .i64 0,.int .i64 0,.int .i64 0,.int .i64 0,.int .i64 0,.int .i64 0,.int .i64 0,.int .i64 0,.int .i64 0,.int .i64 0,.int .i64 0,.int .i64 0,.int .i64 0,.int .i64 0,.int .i64 0,.int .i64 0,.int .i64 0,.int .i64 0,.int .i64 0,.int .i64 0,.int .i64 0,.int .i64 0,.int .i64 0,.int .i64 0,.int .i64 0,.int .i64 0,.int .i64 0,.int .i64 0,.int .i64 0,.int .i64 0,.int .i64 0,.int .i64 0] 29))):=zN ((zBr _ _).alloc (Nat.le_refl _) _)
   go_wp2_with (refine wpl_storeC (by rfl) (.tmp 6) (.tmp 40) (by rfl) w6.heap.size _ kc (by rfl) (by rfl) HZN.out ?_;refine Hid.out ?_)
   refine zN ?_
   have HC7:Hid (CtlAt ((w6.alloc (.cells #[.int .i64 0,.int .i64 0,.int .i64 0,.int .i64 0,.int .i64 0,.int .i64 0,.int .i64 0,.int .i64 0,.int .i64 0,.int .i64 0,.int .i64 0,.int .i64 0,.int .i64 0,.int .i64 0,.int .i64 0,.int .i64 0,.int .i64 0,.int .i64 0,.int .i64 0,.int .i64 0,.int .i64 0,.int .i64 0,.int .i64 0,.int .i64 0,.int .i64 0,.int .i64 0,.int .i64 0,.int .i64 0,.int .i64 0,.int .i64 0,.int .i64 0,.int .i64 0,.int .i64 0,.int .i64 0,.int .i64 0,.int .i64 0,.int .i64 0,.int .i64 0,.int .i64 0,.int .i64 0,.int .i64 0] 29)).setCells w6.heap.size 0 (ctlL kc)) w6.heap.size kc):=zN (HZN.out.store kc)
   have HB7:Hid (Below w6.heap.size w6 ((w6.alloc (.cells #[.int .i64 0,.int .i64 0,.int .i64 0,.int .i64 0,.int .i64 0,.int .i64 0,.int .i64 0,.int .i64 0,.int .i64 0,.int .i64 0,.int .i64 0,.int .i64 0,.int .i64 0,.int .i64 0,.int .i64 0,.int .i64 0,.int .i64 0,.int .i64 0,.int .i64 0,.int .i64 0,.int .i64 0,.int .i64 0,.int .i64 0,.int .i64 0,.int .i64 0,.int .i64 0,.int .i64 0,.int .i64 0,.int .i64 0,.int .i64 0,.int .i64 0,.int .i64 0,.int .i64 0,.int .i64 0,.int .i64 0,.int .i64 0,.int .i64 0,.int .i64 0,.int .i64 0,.int .i64 0,.int .i64 0] 29)).setCells w6.heap.size 0 (ctlL kc))):=zN (below_setC HZB.out (Nat.le_refl _) _)
   generalize ((w6.alloc (.cells #[.int .i64 0,.int .i64 0,.int .i64 0,.int .i64 0,.int .i64 0,.int .i64 0,.int .i64 0,.int .i64 0,.int .i64 0,.int .i64 0,.int .i64 0,.int .i64 0,.int .i64 0,.int .i64 0,.int .i64 0,.int .i64 0,.int .i64 0,.int .i64 0,.int .i64 0,.int .i64 0,.int .i64 0,.int .i64 0,.int .i64 0,.int .i64 0,.int .i64 0,.int .i64 0,.int .i64 0,.int .i64 0,.int .i64 0,.int .i64 0,.int .i64 0,.int .i64 0,.int .i64 0,.int .i64 0,.int .i64 0,.int .i64 0,.int .i64 0,.int .i64 0,.int .i64 0,.int .i64 0,.int .i64 0] 29)).setCells w6.heap.size 0 (ctlL kc))=w7 at *
   have HBW7:=zN (HB6.out.trans (HB7.out.mono HB6.out.size))
   have HR7:=zN (HR6.out.below HB7.out)
   have HS7:=zN (HS6.out.below HB7.out)
   obtain⟨RB,hRB⟩:∃ RB,RB=w6.heap.size:=⟨_,rfl⟩
   rw[←hRB] at HC7 ⊢
   have HRB:=zN hRB
   have hgRB:g≠RB:=by have:=HS6.out.lt;omega
   clear hRB HZN HZB HB6 HR6 HS6 HB7
   obtain⟨p',cp',e',_,hVX,_⟩:=HR7.out.form
   rw[HXM.out] at e'
   injection e' with e1 e2 e3
   subst e1 e3
   clear e2
   obtain⟨m3,hm3⟩:∃ m3,m3=min k 3:=⟨_,rfl⟩
   have hmin:min (k:Int) 3=(m3:Int):=by rw[hm3];omega
   have hm3k:m3≤k:=by rw[hm3];exact Nat.min_le_left _ _
   have hm33:m3≤3:=by rw[hm3];exact Nat.min_le_right _ _
   have HM0:Hid (m3=0↔k=0):=zN (by rw[hm3];omega)
   have HVY:=zN (VecR.takeB hVX m3)
   obtain⟨Y,hY⟩:∃ Y,Y=X.take m3:=⟨_,rfl⟩
   rw[←hY] at HVY
   have HYL:Hid (Y.length=m3):=zN (by rw[hY,List.length_take,HXM.out];omega)
   have HYF:Hid (FewOk Y):=zN (fun x hx=>HFX.out x (by rw[hY] at hx;exact List.mem_of_mem_take hx))
   have HE:=zN (chkE_ok HKO.out HYF.out)
   have HCF:=zN (chkL_few (k:=kc) (L:=Y) (by rw[HYL.out];exact hm33))
   have HCK:=zN (bcheck_any p cp m3 Y HYL.out (by omega) kc w7 (HT.out.below HBW7.out) (HBN.out.below HBW7.out) HVY.out)
   rw[HE.out,HCF.out] at HCK
   have hC7:=HC7.out
   have HNE:Hid (∀ x∈Y,∀ a n c,x.1.rd=.slice (some a) n c→0 < x.2.length→a.block≠g):=zN (fun x hx a n c ha h0=>by
    have h:=(HR7.out.ne x (by rw[hY] at hx;exact List.mem_of_mem_take hx) a n c ha h0).1
    omega)
   clear hm3 hY hVX HR7 HFX HXM HPB
   have hk12:(k:Int)≤12:=by omega
   have hm3c:m3≤cp:=by have:=hcp;omega
   go_wp2_with (first|(refine wpl_loadC (by rfl) (.tmp 6) (by rfl) RB kc (by rfl) hC7 ?_;refine Hid.out ?_))
   refine zN ?_
   go_wp2_with fail
   refine HCK.out.mono ?_
   rintro e w8 ⟨v8,rfl,hb8,hF8⟩
   obtain⟨pq,cq,rfl,_⟩:=hF8.slice
   have e0:([]:List I2).length=0:=rfl
   rw[e0]
   have HB8:=zN (HBW7.out.trans (hb8.mono HBW7.out.size))
   have HC8:=zN (HC7.out.below hb8)
   have HVY8:=zN (HVY.out.below hb8)
   obtain⟨i7,hs7⟩:∃ i,SrcAt w7 g b N i:=⟨i6,HS7.out⟩
   have HS8:=zN (hs7.below hb8)
   have hgl8:=HS8.out.lt
   have hRl8:=HC8.out.lt
   clear e0 hF8 hb8 hC7 HC7 HCK HVY hs7 HS7
   have hsd:w8.drew.cell? ⟨RB,38,none⟩=some (.int .i64 kc.fr):=HC8.out.c38
   have hYL:=HYL.out
   have hnews:=VecR.news (m:=m3) (HVY8.out.v.below (((zBr w8.heap.size w8).alloc (Nat.le_refl _) (.cells #[] 44)).drew)) (by rw[List.length_map];exact hYL)
   have hnl:((Y.map Prod.fst).flatMap rpc).length=m3*8:=by rw[rps_len,List.length_map,hYL]
   have hone:∀ u∈(Y.map Prod.fst).flatMap rpc,u.oneCell'=true:=rpc_one (fun r hr=>by
    obtain⟨x,hx,rfl⟩:=List.mem_map.1 hr
    obtain⟨q,c,e,_⟩:=(HVY8.out.r x hx).ex
    exact⟨q,_,c,e⟩)
   clear hYL
   go_wp2_with fail
   refine RX.region RX.fL (fun w'=>w'.cell? ⟨RB,38,none⟩=some (.int .i64 kc.fr)) (by kernel_rfl) (by kernel_rfl) (hsd) (fun OPS HO QR hQR=>?_)
   refine zeX (fun R hR=>?_)
   refine zgX (by first|rfl|(rw[HO.out];rfl)) rfl (fun K hK=>?_)
   go_wp2
   refine⟨(by (try have hLt:=zM _ _ hsd);(try simp only at hLt);(repeat first|rw[zO]|rw[zK _ _ _ _ (by first|(simp<;>omega)|omega)]|rw[zJ,if_neg (by first|(simp<;>omega)|omega)]);first|exact hsd|(rw[zJ,if_pos (by first|(simp;done)|omega)];exact hsd)),hR _ _ ?_⟩;clear hR R
   repeat (refine zeX (fun R hR=>?_);(first|refine zaX (by first|rfl|(rw[HO.out];rfl)) (by simp only[zA,zB,zC,zD];rfl) ?_|refine zbX (by first|rfl|(rw[HO.out];rfl)) rfl (by first|exact .inl rfl|exact .inr rfl) (by simp only[zE,zF,zG,zH];rfl) (by simp only[zA,zB,zC,zD];rfl) ?_|refine zcX (by first|rfl|(rw[HO.out];rfl)) rfl rfl (by simp only[zE,zF,zG,zH];rfl) (by simp only[zA,zB,zC,zD];rfl) ?_|(refine zdX (by first|rfl|(rw[HO.out];rfl)) rfl rfl rfl ?_;apply zEx;apply zEx;refine⟨fun w' hS K hK=>?_,?_,?_⟩;(focus (skip;go_wp2;exact hK _ _ (by simp only[zl,zG,zH];first|exact zf (by omega)|exact zg (by omega)|exact zh (by omega)|exact zi (by omega)|exact zj (by omega)|exact zk (by omega)|exact RX.bneB _|rfl) rfl));(focus (simp only[zA,zB,zC,zD];rfl))));refine hR _ _ ?_;clear hR R)
   refine zeX (fun R hR=>?_)
   refine zgX (by first|rfl|(rw[HO.out];rfl)) rfl (fun K hK=>?_)
   refine RX.wp_appA elRep _ _ rfl w8.heap.size (some ⟨w8.heap.size,0,none⟩) 0 0 [] (World.ownsRow.drew (own_empty w8 44 8)) (by simp only[zE,zF,zG,zH]) p m3 cp _ (by simp only[zE,zF,zG,zH]) hnl hnews hone (by omega) (by omega) (by simp) (fun v9 w9 hown9 hb9=>?_)
   rw[Nat.zero_add,List.nil_append] at hown9
   have hb9':Below w8.heap.size w8 w9:=(((zBr _ _).alloc (Nat.le_refl _) _).drew).trans hb9
   have HB9:=zN (HB8.out.trans (hb9'.mono HB8.out.size))
   have hc9:=zP hb9' (show w8.cell? ⟨RB,38,none⟩=some (.int .i64 kc.fr) from HC8.out.c38)
   have hown9':RepRow w9 w8.heap.size v9 (Y.map Prod.fst):=by
    unfold RepRow
    rw[List.length_map,HYL.out];exact hown9
   obtain⟨p9,c9,rfl,hV9,hp9⟩:=VecB.of_row hown9' (fun x hx=>(HVY8.out.r x hx).below hb9')
   have HV9:=zN hV9
   have HP9:Hid (∀ a,p9=some a→0 < Y.length→a.block≠g):=zN (fun a ha h0=>by
    obtain⟨bq,e1,e2,_⟩:=hp9 h0
    rw[ha] at e1
    injection e1 with e1
    subst e1
    show bq≠g
    omega)
   have HS9:=zN (HS8.out.below hb9')
   have HYe:=HYL.out
   rw[HYe]
   clear hown9 hb9 hb9' hown9' hV9 hp9 HS8 HVY8 HYe hnews hnl hone hsd HC8
   refine hK _ _ ⟨hc9,?_⟩;clear hK K;refine RX.at_ (by simp only[RX.put_some,RX.put_none,List.set_cons_zero,List.set_cons_succ];rfl) (hR _ _ ?_);clear hR R
   repeat (refine zeX (fun R hR=>?_);(first|refine zaX (by first|rfl|(rw[HO.out];rfl)) (by simp only[zA,zB,zC,zD];rfl) ?_|refine zbX (by first|rfl|(rw[HO.out];rfl)) rfl (by first|exact .inl rfl|exact .inr rfl) (by simp only[zE,zF,zG,zH];rfl) (by simp only[zA,zB,zC,zD];rfl) ?_|refine zcX (by first|rfl|(rw[HO.out];rfl)) rfl rfl (by simp only[zE,zF,zG,zH];rfl) (by simp only[zA,zB,zC,zD];rfl) ?_|(refine zdX (by first|rfl|(rw[HO.out];rfl)) rfl rfl rfl ?_;apply zEx;apply zEx;refine⟨fun w' hS K hK=>?_,?_,?_⟩;(focus (skip;go_wp2;exact hK _ _ (by simp only[zl,zG,zH];first|exact zf (by omega)|exact zg (by omega)|exact zh (by omega)|exact zi (by omega)|exact zj (by omega)|exact zk (by omega)|exact RX.bneB _|rfl) rfl));(focus (simp only[zA,zB,zC,zD];rfl))));refine hR _ _ ?_;clear hR R)
   refine zeX (fun R hR=>?_)
   refine zgX (by first|rfl|(rw[HO.out];rfl)) rfl (fun K hK=>?_)
   go_wp2_with fail
   refine (srcRange_any w9 g b N i7 1 11 HS9.out (by omega) (by omega) (by omega)).mono ?_
   rintro e w10 ⟨cd,rfl,hcd0,hcd1,hg10,hs10⟩
   have HB10:=zN (HB9.out.grown hg10 HB9.out.size (fun k hk=>by injection hk with hk;have:=HG.out;omega))
   have hc10:=hg10.cell hc9 (by simpa using Ne.symm hgRB)
   have HV10:=zN (HV9.out.gr hg10 HP9.out HNE.out)
   have HNN:=zN (bnei_any p9 c9 m3 Y HYL.out (by omega) kc.fr 0 cd w10 (HT.out.below HB10.out) (HBN.out.below HB10.out) HV10.out)
   clear hg10 hs10 hc9 HS9 HV9 HB9
   refine hK _ _ ⟨hc10,hR _ _ ?_⟩;clear hK K hR R
   repeat (refine zeX (fun R hR=>?_);(first|refine zaX (by first|rfl|(rw[HO.out];rfl)) (by simp only[zA,zB,zC,zD];rfl) ?_|refine zbX (by first|rfl|(rw[HO.out];rfl)) rfl (by first|exact .inl rfl|exact .inr rfl) (by simp only[zE,zF,zG,zH];rfl) (by simp only[zA,zB,zC,zD];rfl) ?_|refine zcX (by first|rfl|(rw[HO.out];rfl)) rfl rfl (by simp only[zE,zF,zG,zH];rfl) (by simp only[zA,zB,zC,zD];rfl) ?_|(refine zdX (by first|rfl|(rw[HO.out];rfl)) rfl rfl rfl ?_;apply zEx;apply zEx;refine⟨fun w' hS K hK=>?_,?_,?_⟩;(focus (skip;go_wp2;exact hK _ _ (by simp only[zl,zG,zH];first|exact zf (by omega)|exact zg (by omega)|exact zh (by omega)|exact zi (by omega)|exact zj (by omega)|exact zk (by omega)|exact RX.bneB _|rfl) rfl));(focus (simp only[zA,zB,zC,zD];rfl))));refine hR _ _ ?_;clear hR R)
   refine zeX (fun R hR=>?_)
   refine zgX (by first|rfl|(rw[HO.out];rfl)) rfl (fun K hK=>?_)
   go_wp2_with fail
   refine HNN.out.mono ?_
   rintro e w11 ⟨v11,rfl,hq11,hb11⟩
   obtain⟨pn,cn,rfl,_⟩:=own_slice hq11
   have hc11:=zP hb11 hc10
   have HB11:=zN (HB10.out.trans (hb11.mono HB10.out.size))
   have hlf:=neiL_few (n:=kc.fr) (L:=Y) (c:=cd) (by rw[HYL.out];exact hm33)
   obtain⟨ln,hln⟩:∃ ln,ln=(neiL kc.fr Y 0 cd).length:=⟨_,rfl⟩
   rw[←hln] at hlf ⊢
   have HAW:=zN (awake18_any w11 (HT.out.below HB11.out) (HBN.out.below HB11.out))
   have HFR:Hid (1≤kc.fr∧kc.fr≤8):=zN ⟨HKO.out.fr.1,by have:=HKO.out.fr.2;omega⟩
   have HEX:Hid (exE Y=0):=zN (exE_all HYF.out)
   clear hq11 hb11 hc10 HNN hln HV10
   refine hK _ _ ⟨hc11,hR _ _ ?_⟩;clear hK K hR R
   repeat (refine zeX (fun R hR=>?_);(first|refine zaX (by first|rfl|(rw[HO.out];rfl)) (by simp only[zA,zB,zC,zD];rfl) ?_|refine zbX (by first|rfl|(rw[HO.out];rfl)) rfl (by first|exact .inl rfl|exact .inr rfl) (by simp only[zE,zF,zG,zH];rfl) (by simp only[zA,zB,zC,zD];rfl) ?_|refine zcX (by first|rfl|(rw[HO.out];rfl)) rfl rfl (by simp only[zE,zF,zG,zH];rfl) (by simp only[zA,zB,zC,zD];rfl) ?_|(refine zdX (by first|rfl|(rw[HO.out];rfl)) rfl rfl rfl ?_;apply zEx;apply zEx;refine⟨fun w' hS K hK=>?_,?_,?_⟩;(focus (skip;go_wp2;exact hK _ _ (by simp only[zl,zG,zH];first|exact zf (by omega)|exact zg (by omega)|exact zh (by omega)|exact zi (by omega)|exact zj (by omega)|exact zk (by omega)|exact RX.bneB _|rfl) rfl));(focus (simp only[zA,zB,zC,zD];rfl))));refine hR _ _ ?_;clear hR R)
   refine RX.wpL_nil (hQR _ _ (hc11) ?_);clear hQR QR HO OPS
   clear hc11
   by_cases hm0:m3=0
   ·have hdm:((m3:Int) == 0)=true:=by rw[hm0];rfl
    have HE1:Hid (neiE kc.fr Y 0=1):=zN (neiE_r HFR.out HEX.out (.inr (by rw[HYL.out,hm0];decide)))
    rw[HE1.out]
    go_wp2_with fail
    refine HAW.out.mono ?_
    rintro e w12 ⟨rfl,hb12⟩
    have HB12:=zN (HB11.out.trans (hb12.mono HB11.out.size))
    clear hb12
    go_wp2
    go_ret
    exact⟨rfl,HB12.out⟩
   ·have hdm:((m3:Int) == 0)=false:=by rw[beq_eq_false_iff_ne];omega
    have HE1:Hid (neiE kc.fr Y 0=0):=zN (neiE_0 HFR.out HEX.out (by rw[HYL.out];omega))
    rw[HE1.out]
    have hdl:decide ((ln:Int)≤2)=true:=zDt (by omega)
    go_wp2_with fail
    refine HAW.out.mono ?_
    rintro e w12 ⟨rfl,hb12⟩
    have HB12:=zN (HB11.out.trans (hb12.mono HB11.out.size))
    clear hb12
    go_wp2
    go_ret
    exact⟨rfl,HB12.out⟩
end Go.Proofs.YtednaajanciabaaGreatDoor
