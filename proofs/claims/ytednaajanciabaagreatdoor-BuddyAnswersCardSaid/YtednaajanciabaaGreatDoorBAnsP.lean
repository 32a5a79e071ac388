import Derived.Test.YtednaajanciabaaGreatDoorBent
import Derived.Test.YtednaajanciabaaGreatDoorBCtlM
import Derived.Test.YtednaajanciabaaGreatDoorKBAwk
import Derived.Test.YtednaajanciabaaGreatDoorKBFl
import Derived.Test.YtednaajanciabaaGreatDoorKBPan
set_option maxRecDepth 100000
set_option maxHeartbeats 8000000
set_option linter.unusedSimpArgs false
set_option linter.unusedVariables false
namespace Go.Proofs.YtednaajanciabaaGreatDoor
open Go.RowKit Go.Grid Go.Buddy
theorem asc_len:∀ (R:Rdg) (lo:Int),lo≤12→AscR R→(∀ x∈R,lo≤x.1∧x.1≤11)→(R.length:Int)≤12-lo
 |[],lo,h,_,_=>by simp;omega
 |x :: R,lo,_,h,hb=>by
  obtain⟨h1,h2⟩:=List.pairwise_cons.1 h
  have hx:=hb x (by simp)
  have ih:=asc_len R (x.1+1) (by omega) h2 (fun y hy=>⟨by have:=h1 y hy;omega,(hb y (by simp[hy])).2⟩)
  simp only[List.length_cons]
  omega
theorem val_asc {R:Rdg} (h:valE R=0):AscR R:=by
 unfold valE at h
 by_cases a4:R.any (fun x=>checkE x.1 x.2 == 4)=true
 ·rw[if_pos a4] at h;exact absurd h (by decide)
 ·rw[if_neg a4] at h
  by_cases a1:R.any (fun x=>checkE x.1 x.2 == 1)=true
  ·rw[if_pos a1] at h;exact absurd h (by decide)
  ·rw[if_neg a1] at h
   by_cases a:AscR R
   ·exact a
   ·rw[if_neg a] at h;exact absurd h (by decide)
theorem val_len {R:Rdg} (h:valE R=0):R.length≤11:=by
 have:=asc_len R 1 (by decide) (val_asc h) (fun x hx=>(val_bd h x hx).1)
 omega
structure ZL (w:World) (g:Nat) (p:Option Addr) (L:List BR):Prop where
 v:VecB w p L
 b:∀ a,p=some a→0 < L.length→a.block≠g
 r:∀ x∈L,∀ a n c,x.1.rd=.slice (some a) n c→0 < x.2.length→a.block≠g
theorem ZL.below {w w':World} {g:Nat} {p:Option Addr} {L:List BR} (h:ZL w g p L) (hb:Below w.heap.size w w'):ZL w' g p L:=⟨h.v.below hb,h.b,h.r⟩
theorem ZL.grown {w w':World} {g:Nat} {p:Option Addr} {L:List BR} (h:ZL w g p L) (hg:w.grownBy w' (some g)):ZL w' g p L:=
 ⟨⟨VecR.gr h.v.v hg (fun a ha h0=>h.b a ha (by rwa[List.length_map] at h0)),fun x hx=>(h.v.r x hx).turn (fun a n c ha h0=>hg.block _ ((h.v.r x hx).blk ha h0) (fun e=>h.r x hx a n c ha h0 (by injection e)))⟩,h.b,h.r⟩
theorem ZL.old {w w':World} {p:Option Addr} {L:List BR} (h:VecB w p L) (hb:Below w.heap.size w w'):ZL w' w.heap.size p L:=
 ⟨h.below hb,fun a ha h0=>by
  obtain⟨b,o,h1,h2,_⟩:=h.cell h0
  rw[ha] at h1
  injection h1 with h1
  subst h1
  show b≠w.heap.size
  omega,fun x hx a n c ha h0=>by have:=(h.r x hx).blk ha h0;omega⟩
theorem ZL.crowd {w:World} {base g n cap:Nat} {p:Option Addr} {L:List BR} (h:CrRow w base (.slice p n cap) L) (hl:L.length=n) (hg:g < base):ZL w g p L:=by
 subst hl
 obtain⟨p',c',e,_,hv,hp⟩:=h.form
 injection e with e _ _
 subst e
 exact⟨hv,fun a ha h0=>by
  obtain⟨b,e2,h1,_⟩:=hp h0
  rw[ha] at e2
  injection e2 with e2
  subst e2
  show b≠g
  omega,fun x hx a n c ha h0=>by have:=(h.ne x hx a n c ha h0).1;omega⟩
structure LoS (W0 w:World) (g b N:Nat) (cs:List (Addr × Value)):Prop where
 gr:W0.grownBy w (some g)
 s:∃ j,SrcAt w g b N j
 c:∀ q∈cs,w.cell? q.1=some q.2∧q.1.block≠g
theorem LoS.grown {W0 w w':World} {g b N:Nat} {cs:List (Addr × Value)} (h:LoS W0 w g b N cs) (hg:w.grownBy w' (some g)) (hs:∃ j,SrcAt w' g b N j):LoS W0 w' g b N cs:=
 ⟨h.gr.trans hg,hs,fun q hq=>⟨hg.cell (h.c q hq).1 (fun e=>(h.c q hq).2 (by injection e)),(h.c q hq).2⟩⟩
theorem LoS.below {W0 w w':World} {g b N:Nat} {cs:List (Addr × Value)} (h:LoS W0 w g b N cs) (hb:Below w.heap.size w w'):LoS W0 w' g b N cs:=by
 obtain⟨j,hj⟩:=h.s
 exact⟨h.gr.trans (grw_below hb (some g)),⟨j,hj.below hb⟩,fun q hq=>⟨(World.cell?_of_block (hb.block _ (zM _ _ (h.c q hq).1))).trans (h.c q hq).1,(h.c q hq).2⟩⟩
theorem LoS.more {W0 w:World} {g b N:Nat} {cs:List (Addr × Value)} (h:LoS W0 w g b N cs) (x y:Value) (t:TypeId):LoS W0 (w.alloc (.cells #[x,y] t)) g b N ((⟨w.heap.size,0,none⟩,x) :: (⟨w.heap.size,1,none⟩,y) :: cs):=by
 have h1:=h.below ((zBr w.heap.size w).alloc (Nat.le_refl _) (.cells #[x,y] t))
 obtain⟨j,hj⟩:=h.s
 have hg:=hj.lt
 refine⟨h1.gr,h1.s,fun q hq=>?_⟩
 rcases List.mem_cons.1 hq with rfl|hq
 ·exact⟨(by simp[zO,zJ,zQ]),by show w.heap.size≠g;omega⟩
 ·rcases List.mem_cons.1 hq with rfl|hq
  ·exact⟨(by simp[zO,zJ,zQ]),by show w.heap.size≠g;omega⟩
  ·exact h1.c q hq
theorem LoS.less {W0 w:World} {g b N:Nat} {cs cs':List (Addr × Value)} (h:LoS W0 w g b N cs) (hs:∀ q∈cs',q∈cs):LoS W0 w g b N cs':=⟨h.gr,h.s,fun q hq=>h.c q (hs q hq)⟩
theorem LoS.one {W0 w:World} {g b N R:Nat} {cs:List (Addr × Value)} {x y:Int} (h:LoS W0 w g b N cs) (h0:(⟨R,0,none⟩,.int .i64 x)∈cs) (h1:(⟨R,1,none⟩,.int .i64 y)∈cs) {k:Nat} (hk:k < 2):∃ z:Int,w.cell? ⟨R,k,none⟩=some (.int .i64 z):=by
 match k,hk with
 |0,_=>exact⟨x,(h.c _ h0).1⟩
 |1,_=>exact⟨y,(h.c _ h1).1⟩
theorem RepRow.stp {w:World} {base b n cap i c:Nat} {L:List Rep} {r r':Rep} {u:Value} (h:RepRow w base (.slice (some ⟨b,0,none⟩) n cap) (L.set i r)) (hn:L.length=n) (hi:i < L.length) (hc:c < 8) (hr:rpc r'=(rpc r).set c u):RepRow (w.setCell ⟨b,i*8+c,none⟩ u) base (.slice (some ⟨b,0,none⟩) n cap) (L.set i r'):=by
 have h2:=RepRow.put h (by rw[List.length_set];exact hn) (i:=i) (r':=r') (by rw[List.length_set];exact hi) hc (by rw[List.getElem_set_self];exact hr)
 rw[List.set_set] at h2
 exact h2
abbrev z41:Array Value:=#[.int .i64 0,.int .i64 0,.int .i64 0,.int .i64 0,.int .i64 0,.int .i64 0,.int .i64 0,.int .i64 0,.int .i64 0,.int .i64 0,.int .i64 0,.int .i64 0,.int .i64 0,.int .i64 0,.int .i64 0,.int .i64 0,.int .i64 0,.int .i64 0,.int .i64 0,.int .i64 0,.int .i64 0,.int .i64 0,.int .i64 0,.int .i64 0,.int .i64 0,.int .i64 0,.int .i64 0,.int .i64 0,.int .i64 0,.int .i64 0,.int .i64 0,.int .i64 0,.int .i64 0,.int .i64 0,.int .i64 0,.int .i64 0,.int .i64 0,.int .i64 0,.int .i64 0,.int .i64 0,.int .i64 0]
abbrev put8 (w:World) (b i:Nat) (k:Int) (nm:ByteArray) (t f a b' c:Int) (rd:Value):World:=((((((((w.setCell ⟨b,i*8,none⟩ (.int .i64 k)).setCell ⟨b,i*8+1,none⟩ (.string nm)).setCell ⟨b,i*8+2,none⟩ (.int .i64 t)).setCell ⟨b,i*8+3,none⟩ (.int .i64 f)).setCell ⟨b,i*8+4,none⟩ (.int .i64 a)).setCell ⟨b,i*8+5,none⟩ (.int .i64 b')).setCell ⟨b,i*8+6,none⟩ (.int .i64 c)).setCell ⟨b,i*8+7,none⟩ rd)
theorem grw_put8 {w0 w:World} {r b i:Nat} {k:Int} {nm:ByteArray} {t f a b' c:Int} {rd:Value} (h:w0.grownBy w (some r)) (hb:b=r∨w0.heap.size≤b):w0.grownBy (put8 w b i k nm t f a b' c rd) (some r):=grw_set (grw_set (grw_set (grw_set (grw_set (grw_set (grw_set (grw_set h hb) hb) hb) hb) hb) hb) hb) hb
theorem RepRow.put8 {w:World} {base b n cap i:Nat} {L:List Rep} (h:RepRow w base (.slice (some ⟨b,0,none⟩) n cap) L) (hn:L.length=n) (hi:i < L.length) (k:Int) (nm:ByteArray) (t f a b' c:Int) (rd:Value) :
  RepRow (put8 w b i k nm t f a b' c rd)
   base (.slice (some ⟨b,0,none⟩) n cap) (L.set i ⟨k,nm,t,f,a,b',c,rd⟩):=by
 have h0:RepRow w base (.slice (some ⟨b,0,none⟩) n cap) (L.set i L[i]):=by rw[List.set_getElem_self];exact h
 generalize L[i]=r at h0
 obtain⟨k0,nm0,t0,f0,a0,b0,c0,rd0⟩:=r
 have h1:=RepRow.stp (c:=0) (u:=.int .i64 k) (r':=⟨k,nm0,t0,f0,a0,b0,c0,rd0⟩) h0 hn hi (by decide) rfl
 have h2:=RepRow.stp (c:=1) (u:=.string nm) (r':=⟨k,nm,t0,f0,a0,b0,c0,rd0⟩) h1 hn hi (by decide) rfl
 have h3:=RepRow.stp (c:=2) (u:=.int .i64 t) (r':=⟨k,nm,t,f0,a0,b0,c0,rd0⟩) h2 hn hi (by decide) rfl
 have h4:=RepRow.stp (c:=3) (u:=.int .i64 f) (r':=⟨k,nm,t,f,a0,b0,c0,rd0⟩) h3 hn hi (by decide) rfl
 have h5:=RepRow.stp (c:=4) (u:=.int .i64 a) (r':=⟨k,nm,t,f,a,b0,c0,rd0⟩) h4 hn hi (by decide) rfl
 have h6:=RepRow.stp (c:=5) (u:=.int .i64 b') (r':=⟨k,nm,t,f,a,b',c0,rd0⟩) h5 hn hi (by decide) rfl
 have h7:=RepRow.stp (c:=6) (u:=.int .i64 c) (r':=⟨k,nm,t,f,a,b',c,rd0⟩) h6 hn hi (by decide) rfl
 exact RepRow.stp (c:=7) (u:=rd) (r':=⟨k,nm,t,f,a,b',c,rd⟩) h7 hn hi (by decide) rfl
end Go.Proofs.YtednaajanciabaaGreatDoor
