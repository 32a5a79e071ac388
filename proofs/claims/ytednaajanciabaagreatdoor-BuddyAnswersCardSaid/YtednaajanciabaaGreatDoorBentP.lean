import Derived.Test.YtednaajanciabaaGreatDoorKBCr
set_option maxRecDepth 100000
set_option maxHeartbeats 8000000
set_option linter.unusedSimpArgs false
set_option linter.unusedVariables false
namespace Go.Proofs.YtednaajanciabaaGreatDoor
open Go.RowKit Go.Grid Go.Buddy
structure BeS (w wr:World) (g b n R:Nat) (r:Rep) (D:Rdg):Prop where
 rp:RptW wr R r
 res:RptW wr (R+1) rep00
 own:RdOwn wr (R+2) r.rd D
 gr:w.grownBy wr (some g)
 s:∃ j,SrcAt wr g b n j
 wR:w.heap.size≤R
 gR:g < R
 bR:0 < n→b < R
 sz:R+2≤wr.heap.size
 len:D.length≤100
theorem BeS.kept {w wr w':World} {g b n R:Nat} {r:Rep} {D:Rdg} (h:BeS w wr g b n R r D) (row:Option Nat) (hg:wr.grownBy w' row) (hr:∀ k,row=some k→k=g∨wr.heap.size≤k) (hs:∃ j,SrcAt w' g b n j):BeS w w' g b n R r D:=by
 have h1:=h.gR
 have h2:=h.wR
 have h3:=h.sz
 have h5:=h.gr.size
 refine⟨h.rp.block (hg.block _ h.rp.lt (fun e=>?_)),h.res.block (hg.block _ h.res.lt (fun e=>by have h4:=h.res.lt;rcases hr (R+1) e.symm with h6|h6<;>omega)),World.ownsRow.kept h.own hg ?_,⟨hg.os.trans h.gr.os,hg.tape.trans h.gr.tape,hg.output.trans h.gr.output,Nat.le_trans h.gr.size hg.size,fun k hk hne=>(hg.block k (Nat.lt_of_lt_of_le hk h.gr.size) (fun e=>?_)).trans (h.gr.block k hk hne)⟩,hs,h.wR,h.gR,h.bR,Nat.le_trans h.sz hg.size,h.len⟩
 ·have h4:=h.rp.lt
  rcases hr R e.symm with h6|h6<;>omega
 ·cases ho:r.rd.ownBlock with
  |none=>exact .inl rfl
  |some k=>exact .inr (fun e=>by have h4:=World.ownsRow.lt h.own k ho;rcases hr k e.symm with h6|h6<;>omega)
 ·rcases hr k e.symm with h6|h6
  ·subst h6;exact hne rfl
  ·omega
theorem BeS.grown {w wr w':World} {g b n R:Nat} {r:Rep} {D:Rdg} (h:BeS w wr g b n R r D) (hg:wr.grownBy w' (some g)) (hs:∃ j,SrcAt w' g b n j):BeS w w' g b n R r D:=
 h.kept (some g) hg (fun k e=>.inl (by injection e with e;exact e.symm)) hs
theorem BeS.below {w wr w':World} {g b n R:Nat} {r:Rep} {D:Rdg} (h:BeS w wr g b n R r D) (hb:Below wr.heap.size wr w'):BeS w w' g b n R r D:=by
 obtain⟨j,hj⟩:=h.s
 exact h.kept none (grw_below hb none) (fun k e=>by cases e) ⟨j,hj.below hb⟩
theorem BeS.put {w wr:World} {g b n R c:Nat} {r r':Rep} {D:Rdg} {u:Value} (h:BeS w wr g b n R r D) (hrp:RptW (wr.setCell ⟨R,c,none⟩ u) R r') (hrd:r'.rd=r.rd):BeS w (wr.setCell ⟨R,c,none⟩ u) g b n R r' D:=by
 have hg:wr.grownBy (wr.setCell ⟨R,c,none⟩ u) (some R):=grw_set (grw_refl _ _) (.inl rfl)
 obtain⟨j,hj⟩:=h.s
 refine⟨hrp,h.res.set (by omega),?_,grw_set h.gr (.inr h.wR),⟨j,hj.other (by have:=h.gR;omega) (fun h0=>by have:=h.bR h0;omega)⟩,h.wR,h.gR,h.bR,by simpa using h.sz,h.len⟩
 rw[hrd]
 refine World.ownsRow.kept h.own hg ?_
 cases ho:r.rd.ownBlock with
 |none=>exact .inl rfl
 |some k=>exact .inr (fun e=>by injection e with e;have:=(World.ownsRow.lt h.own k ho).1;omega)
theorem BeS.place {w wr:World} {g b n R:Nat} {r:Rep} {D:Rdg} (h:BeS w wr g b n R r D) (f a b' c:Int) :
  BeS w ((((wr.setCell ⟨R,3,none⟩ (.int .i64 f)).setCell ⟨R,4,none⟩ (.int .i64 a)).setCell ⟨R,5,none⟩ (.int .i64 b')).setCell ⟨R,6,none⟩ (.int .i64 c)) g b n R ⟨r.kind,r.name,r.time,f,a,b',c,r.rd⟩ D:=
 (((h.put (h.rp.set3 f) rfl).put ((h.rp.set3 f).set4 a) rfl).put (((h.rp.set3 f).set4 a).set5 b') rfl).put ((((h.rp.set3 f).set4 a).set5 b').set6 c) rfl
theorem BeS.start {w w1 w2:World} {g b n j:Nat} {r:Rep} {D:Rdg} {v':Value} (hs:SrcAt w g b n j) (h1:Below w.heap.size w w1) (hz:w1.heap.size=w.heap.size+2) (hr:RptW w1 w.heap.size r) (hq:RptW w1 (w.heap.size+1) rep00) (hb:Below w1.heap.size w1 w2) (hown:w2.ownsRow w1.heap.size 55 2 v' D.length (rdV D)) (hl:D.length≤100) :
  BeS w (w2.setCell ⟨w.heap.size,7,none⟩ v') g b n w.heap.size { r with rd:=v' } D:=by
 have hg:w2.grownBy (w2.setCell ⟨w.heap.size,7,none⟩ v') (some w.heap.size):=grw_set (grw_refl _ _) (.inl rfl)
 have hb2:Below w.heap.size w w2:=h1.trans (hb.mono (by omega))
 have hsz:w.heap.size+2≤w2.heap.size:=by have:=hb.size;omega
 refine⟨(hr.below hb).set7 v',(hq.below hb).set (by omega),World.ownsRow.kept (by rw[←hz];exact hown) hg ?_,grw_set (grw_below hb2 _) (.inr (Nat.le_refl _)),⟨j,(hs.below hb2).other (by have:=hs.lt;omega) (fun h0=>by have:=hs.ltb h0;omega)⟩,Nat.le_refl _,hs.lt,fun h0=>hs.ltb h0,by simpa using hsz,hl⟩
 cases ho:v'.ownBlock with
 |none=>exact .inl rfl
 |some k=>exact .inr (fun e=>by injection e with e;have:=(World.ownsRow.lt hown k ho).1;omega)
theorem BeS.add {w wr w1 w2:World} {g b n R:Nat} {r:Rep} {D:Rdg} {v':Value} {e x:Int} (h:BeS w wr g b n R r D) (hb:Below wr.heap.size wr w1) (hg:w1.grownBy w2 r.rd.ownBlock) (hown:w2.ownsRow (R+2) 55 2 v' (D.length+1) (rdV D ++ [.int .i64 e,.int .i64 x])) (hl:D.length+1≤100) :
  BeS w (w2.setCell ⟨R,7,none⟩ v') g b n R { r with rd:=v' } (D ++ [(e,x)]):=by
 have h0:=h.below hb
 have hw:=h.wR
 have hgR:=h.gR
 have hrow:∀ k,r.rd.ownBlock=some k→R+2≤k:=fun k hk=>(World.ownsRow.lt h.own k hk).1
 have hgS:w2.grownBy (w2.setCell ⟨R,7,none⟩ v') (some R):=grw_set (grw_refl _ _) (.inl rfl)
 obtain⟨j,hj⟩:=h0.s
 have hgr:w.grownBy w2 (some g):=⟨hg.os.trans h0.gr.os,hg.tape.trans h0.gr.tape,hg.output.trans h0.gr.output,Nat.le_trans h0.gr.size hg.size,fun k hk hne=>(hg.block k (Nat.lt_of_lt_of_le hk h0.gr.size) (fun e=>by have:=hrow k e.symm;omega)).trans (h0.gr.block k hk hne)⟩
 have hsz:=h0.sz
 have hj2:SrcAt w2 g b n j:=hj.kept (hg.block g hj.lt (fun e=>by have:=hrow g e.symm;omega)) (fun h0=>hg.block b (hj.ltb h0) (fun e=>by have h1:=hrow b e.symm;have h2:=h.bR h0;omega))
 refine⟨(h0.rp.block (hg.block _ h0.rp.lt (fun e=>by have:=hrow R e.symm;omega))).set7 v',(h0.res.block (hg.block _ h0.res.lt (fun e=>by have:=hrow (R+1) e.symm;omega))).set (by omega),World.ownsRow.kept (RdOwn.snoc hown) hgS ?_,grw_set hgr (.inr hw),⟨j,hj2.other (by omega) (fun h0=>by have:=h.bR h0;omega)⟩,hw,hgR,h.bR,by have:=hg.size;simp;omega,by rw[List.length_append];exact hl⟩
 cases ho:v'.ownBlock with
 |none=>exact .inl rfl
 |some k=>exact .inr (fun e=>by injection e with e;have:=(World.ownsRow.lt hown k ho).1;omega)
theorem rdV_set (z:Int):∀ (D:Rdg) (i:Nat) (h:i < D.length),rdV (D.set i (D[i].1,z))=(rdV D).set (i*2+1) (.int .i64 z)
 |p :: D,0,h=>by simp[rdV]
 |p :: D,i+1,h=>by
  have ih:=rdV_set z D i (by simpa using h)
  have e:∀ x (u:Value),(rdV (p :: D)).set (x+2) u=[.int .i64 p.1,.int .i64 p.2] ++ (rdV D).set x u:=fun x u=>by simp[rdV]
  rw[show (i+1)*2+1=i*2+1+2 by omega,e,←ih]
  simp[rdV]
theorem BeS.val {w wr:World} {g b n R q m c:Nat} {r:Rep} {D:Rdg} (h:BeS w wr g b n R r D) (hrd:r.rd=.slice (some ⟨q,0,none⟩) m c) {i:Nat} (hi:i < D.length) (z:Int) :
  BeS w (wr.setCell ⟨q,i*2+1,none⟩ (.int .i64 z)) g b n R r (D.set i (D[i].1,z)):=by
 have hq:=World.ownsRow.lt h.own q (by rw[hrd];rfl)
 have hw:=h.wR
 have hgR:=h.gR
 have hsz:=h.sz
 obtain⟨j,hj⟩:=h.s
 refine⟨h.rp.set (by omega),h.res.set (by omega),?_,grw_set h.gr (.inr (by omega)),⟨j,hj.other (by omega) (fun h0=>by have:=h.bR h0;omega)⟩,hw,hgR,h.bR,by simpa using hsz,by rw[List.length_set];exact h.len⟩
 have ho:=h.own
 rw[hrd] at ho ⊢
 unfold RdOwn at ho ⊢
 obtain⟨p',c',e,_⟩:=own_slice ho
 injection e with e1 e2 e3
 subst e2
 rw[List.length_set,rdV_set z D i hi]
 exact own_set ho _ _ (by omega)
def BentOut (w w':World) (g b n:Nat) (y:BR):Prop:=BOk w' y∧y.2.length≤100∧(∀ a m c,y.1.rd=.slice (some a) m c→0 < y.2.length→w.heap.size≤a.block∧a.block < w'.heap.size)∧w.grownBy w' (some g)∧∃ j,SrcAt w' g b n j
theorem BeS.fin {w wr w':World} {g b n R:Nat} {r:Rep} {D:Rdg} (h:BeS w wr g b n R r D) (hg:wr.grownBy w' (some (R+1))):BentOut w w' g b n (r,D):=by
 have hw:=h.wR
 have hgR:=h.gR
 have hsz:=h.sz
 obtain⟨j,hj⟩:=h.s
 have hown:RdOwn w' (R+2) r.rd D:=World.ownsRow.kept h.own hg (by
  cases ho:r.rd.ownBlock with
  |none=>exact .inl rfl
  |some k=>exact .inr (fun e=>by injection e with e;have:=(World.ownsRow.lt h.own k ho).1;omega))
 obtain⟨p,cap,hrd,hc,hin,hpb⟩:=hown.form
 refine⟨⟨⟨p,cap,hrd,hin⟩,by have:=h.len;show D.length≤1000000000;omega⟩,h.len,fun a m c ha h0=>?_,⟨hg.os.trans h.gr.os,hg.tape.trans h.gr.tape,hg.output.trans h.gr.output,Nat.le_trans h.gr.size hg.size,fun k hk hne=>(hg.block k (Nat.lt_of_lt_of_le hk h.gr.size) (fun e=>by injection e with e;omega)).trans (h.gr.block k hk hne)⟩,⟨j,hj.kept (hg.block g hj.lt (fun e=>by injection e with e;omega)) (fun h0=>hg.block b (hj.ltb h0) (fun e=>by injection e with e;have:=h.bR h0;omega))⟩⟩
 obtain⟨q,rfl,h2,h3⟩:=hpb h0
 have ha:r.rd=.slice (some a) m c:=ha
 rw[hrd] at ha
 injection ha with e1 e2 e3
 injection e1 with e1
 subst e1
 exact⟨by show w.heap.size≤q;omega,h3⟩
end Go.Proofs.YtednaajanciabaaGreatDoor
