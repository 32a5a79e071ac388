import Derived.Test.YtojkamfabapcoaaGreatDoorKTerms
import Derived.Test.YtojkamfabapcoaaGreatDoorKLinV
import Derived.Test.YtojkamfabapcoaaGreatDoorListP
import Derived.Test.YtojkamfabapcoaaGreatDoorKAwake
import Derived.Test.YtojkamfabapcoaaGreatDoorKGenS
import Derived.Test.YtojkamfabapcoaaGreatDoorKCodes
set_option maxRecDepth 100000
set_option maxHeartbeats 8000000
set_option linter.unusedSimpArgs false
set_option linter.unusedVariables false
namespace Go.Proofs.YtojkamfabapcoaaGreatDoor
open Go.RowKit Go.Grid
def dotT (T:List (Int × Int)) (y:List Int):Int:=(T.map (fun c=>c.2*y.getD c.1.toNat 0)).sum
def InT (n:Nat) (T:List (Int × Int)):Prop:=∀ c∈T,c.1.toNat < n
def qr (S:Sy) (x y:List Int):Int:=(S.rows.map (fun r=>r.weight*dotT r.sh x*dotT r.sh y)).sum
def unitL (n k:Nat):List Int:=(List.replicate n 0).set k 1
def sy0:Sy:=⟨1,1,1,[],[]⟩
theorem sy0_ok:SyOk sy0:=⟨by unfold PrOk sy0;decide,by simp[sy0],by simp[sy0],fun i h1 h2=>by simp[sy0] at h1⟩
def ze12:List Int:=[0,0,0,0,0,0,0,0,0,0,0,0]
theorem awake_res:resL sy0 ze12=ze12:=by
 unfold resL rightL multL rfM lessL sy0
 rw[edges_fast];decide +kernel
theorem awake_diag:(diagL sy0)[3]?=some 6:=by
 unfold diagL diagE sy0
 rw[edges_fast];decide +kernel
theorem awake23_any (w:World) (hT:HasTab w):Calls Tryz.prog 8 #[] w fun e w'=>e=.returned (.bool true)∧Below w.heap.size w w':=by
 have hmk:∀ w,(Instr.makeSlice 25 (.int .i64 12) (.int .i64 12)).run Tryz.prog w=.ok (.slice (some ⟨w.heap.size,0,none⟩) 12 12) (w.alloc (.cells #[.int .i64 0,.int .i64 0,.int .i64 0,.int .i64 0,.int .i64 0,.int .i64 0,.int .i64 0,.int .i64 0,.int .i64 0,.int .i64 0,.int .i64 0,.int .i64 0] 3)):=fun _=>by kernel_rfl
 have HS:Hid (∀ w',SysIn w' (.agg #[.int .i64 1,.int .i64 1,.int .i64 1,.slice none 0 0,.slice none 0 0]) sy0):=zN (fun w'=>⟨none,0,none,0,rfl,Nat.zero_le _,Nat.zero_le _,⟨0,0,fun h=>by simp[sy0] at h,fun k hk=>by simp[sy0] at hk⟩,⟨0,0,fun h=>by simp[sy0] at h,fun k hk=>by simp[sy0] at hk⟩⟩)
 have HR:Hid (∀ (p:Option Addr) (xc:Nat) (w':World),HasTab w'→VecAt w' p ze12→Calls Tryz.prog 28 #[.agg #[.int .i64 1,.int .i64 1,.int .i64 1,.slice none 0 0,.slice none 0 0],.slice p 12 xc] w' fun e w''=>∃ N,e=.returned (.tuple #[.slice (some ⟨N,0,none⟩) 12 12,.int .i64 0])∧IntsAt w'' N 0 ze12∧w'.heap.size≤N∧Below w'.heap.size w' w''):=zN (fun p xc w' h1 h2=>by
  have h:=cresid_ok sy0 _ p ze12 xc w' h1 (HS.out w') sy0_ok h2 ⟨sy0_ok.1,by unfold ze12 sy0;decide,by unfold ze12;decide⟩
  rw[awake_res] at h
  exact h)
 have HD:Hid (∀ (w':World),HasTab w'→Calls Tryz.prog 33 #[.agg #[.int .i64 1,.int .i64 1,.int .i64 1,.slice none 0 0,.slice none 0 0]] w' fun e w''=>∃ N,e=.returned (.tuple #[.slice (some ⟨N,0,none⟩) 12 12,.int .i64 0])∧w''.cell? ⟨N,3,none⟩=some (.int .i64 6)∧Below w'.heap.size w' w''):=zN (fun w' h1=>by
  refine (cdiag_ok sy0 _ w' h1 (HS.out w') sy0_ok).mono ?_
  rintro e w'' ⟨N,rfl,hI,_,hb⟩
  refine⟨N,rfl,?_,hb⟩
  have hl:3 < (diagL sy0).length:=by rw[diagL_len];decide
  have h:=(hI 3 hl).1
  have h2:=awake_diag
  rw[List.getElem?_eq_getElem hl] at h2
  injection h2 with h2
  rw[h2] at h
  exact h)
 have HK:Hid (∀ (p q:Option Addr) (cz cy:Nat) (w':World),VecAt w' p ze12→VecAt w' q ze12→Calls Tryz.prog 30 #[.slice p 12 cz,.slice q 12 cy] w' fun e w''=>e=.returned (.bool true)∧Below w'.heap.size w' w''):=zN (fun p q cz cy w' h1 h2=>by
  have h:=kints_len p q ze12 ze12 cz cy w' h1 h2 rfl (by unfold ze12;decide)
  rw[show decide (ze12=ze12)=true from zDt rfl] at h
  exact h)
 clear HS
 go_enter Tryz.func8,Tryz.ntmps8
 go_wp2_with fail
 have hV:VecAt ((w.alloc (.cells #[.int .i64 1,.int .i64 1,.int .i64 1,.slice none 0 0,.slice none 0 0] 27)).alloc (.cells #[.int .i64 0,.int .i64 0,.int .i64 0,.int .i64 0,.int .i64 0,.int .i64 0,.int .i64 0,.int .i64 0,.int .i64 0,.int .i64 0,.int .i64 0,.int .i64 0] 3)) (some ⟨w.heap.size+1,0,none⟩) ze12:=by
  refine⟨w.heap.size+1,0,fun _=>rfl,fun j hj=>?_⟩
  have:j=0∨j=1∨j=2∨j=3∨j=4∨j=5∨j=6∨j=7∨j=8∨j=9∨j=10∨j=11:=by simp[ze12] at hj;omega
  rcases this with rfl|rfl|rfl|rfl|rfl|rfl|rfl|rfl|rfl|rfl|rfl|rfl<;>simp[zJ,ze12]
 refine (HR.out _ _ _ (hT.below (by repeat (first|(with_reducible first|assumption|exact zBr _ _|refine zBs ?_ (by first|omega|(simp<;>omega)) _|refine zBa ?_ (by first|omega|(simp<;>omega)) _|apply zBd)|assumption))) hV).mono ?_
 rintro e w1 ⟨N,rfl,hI,hN,hb1⟩
 have hB:Below w.heap.size w w1:=Below.trans (by repeat (first|(with_reducible first|assumption|exact zBr _ _|refine zBs ?_ (by first|omega|(simp<;>omega)) _|refine zBa ?_ (by first|omega|(simp<;>omega)) _|apply zBd)|assumption)) (hb1.mono (by simp<;>omega))
 have hV1:=hV.below hb1
 have hI1:VecAt w1 (some ⟨N,0,none⟩) ze12:=⟨N,0,fun _=>rfl,fun j hj=>(hI j hj).1⟩
 have q0:w1.cell? ⟨w.heap.size,0,none⟩=some (.int .i64 1):=zP hb1 (by simp[zO,zJ,zQ])
 have q1:w1.cell? ⟨w.heap.size,1,none⟩=some (.int .i64 1):=zP hb1 (by simp[zO,zJ,zQ])
 have q2:w1.cell? ⟨w.heap.size,2,none⟩=some (.int .i64 1):=zP hb1 (by simp[zO,zJ,zQ])
 have q3:w1.cell? ⟨w.heap.size,3,none⟩=some (.slice none 0 0):=zP hb1 (by simp[zO,zJ,zQ])
 have q4:w1.cell? ⟨w.heap.size,4,none⟩=some (.slice none 0 0):=zP hb1 (by simp[zO,zJ,zQ])
 clear hb1 hV hI
 go_wp2_with fail
 refine (HD.out _ (hT.below hB)).mono ?_
 rintro e w2 ⟨M,rfl,d3,hb2⟩
 have hB2:=hB.trans (hb2.mono hB.size)
 have hV2:=hV1.below hb2
 have hI2:=hI1.below hb2
 clear hb2 hB hV1 hI1 q0 q1 q2 q3 q4
 go_wp2_with fail
 refine (HK.out _ _ _ _ _ hI2 hV2).mono ?_
 rintro e w3 ⟨rfl,hb3⟩
 have d3':=zP hb3 d3
 have hB3:=hB2.trans (hb3.mono hB2.size)
 clear hb3 d3 hI2 hV2 hB2
 go_wp2
 go_ret
 exact⟨rfl,hB3⟩
open Go.RowKit Go.Grid Go.Shelf
theorem start_any (W:World) (q:Option Addr) (cap cb co most:Nat) (L:List Int) (w:World) (hm:most≤240) (hp:0 < L.length→q=some ⟨cb,co,none⟩) (hl:L.length≤cap) (hc:cap≤9223372036854775807)
  (hcell:∀ k (h:k < L.length),W.cell? ⟨cb,co+k,none⟩=some (.int .u8 L[k])∧0≤L[k]∧L[k] < 256) (hB:Below W.heap.size W w) :
  Calls Tryz.prog 9 #[.slice q L.length cap,.int .i64 most] w fun e w'=>∃ (g b:Nat) (M:List Int),e=.returned (.pointer (some ⟨g,0,none⟩))∧g=w.heap.size∧Below w.heap.size w w'∧(0 < M.length→b < w.heap.size)∧CodesAt w' g b M 0:=by
 refine (new_any w q cap cb co most L hm hp hl hc (fun k hk=>⟨zP hB (hcell k hk).1,(hcell k hk).2⟩)).mono ?_
 rintro e w' ⟨rfl,hb,b',hb',hC⟩
 exact⟨w.heap.size,b',L.take most,rfl,rfl,hb,fun h0=>hb' (by simp at h0;omega),hC⟩
def Five (w:World) (P:Nat) (f s a:Int) (v1 v2:Value):Prop:=w.cell? ⟨P,0,none⟩=some (.int .i64 f)∧w.cell? ⟨P,1,none⟩=some (.int .i64 s)∧w.cell? ⟨P,2,none⟩=some (.int .i64 a)∧w.cell? ⟨P,3,none⟩=some v1∧w.cell? ⟨P,4,none⟩=some v2
theorem Five.below {w w':World} {P:Nat} {f s a:Int} {v1 v2:Value} (h:Five w P f s a v1 v2) (hb:Below w.heap.size w w'):Five w' P f s a v1 v2:=⟨zP hb h.1,zP hb h.2.1,zP hb h.2.2.1,zP hb h.2.2.2.1,zP hb h.2.2.2.2⟩
theorem Five.turn {w w':World} {P k:Nat} {f s a:Int} {v1 v2:Value} (h:Five w P f s a v1 v2) (hg:w.grownBy w' (some k)) (hne:P≠k):Five w' P f s a v1 v2:=⟨hg.cell h.1 (by simpa using hne),hg.cell h.2.1 (by simpa using hne),hg.cell h.2.2.1 (by simpa using hne),hg.cell h.2.2.2.1 (by simpa using hne),hg.cell h.2.2.2.2 (by simpa using hne)⟩
def Duo (w:World) (g:Nat) (x y:Int):Prop:=w.cell? ⟨g,0,none⟩=some (.int .i64 x)∧w.cell? ⟨g,1,none⟩=some (.int .u64 y)
theorem Duo.below {w w':World} {g:Nat} {x y:Int} (h:Duo w g x y) (hb:Below w.heap.size w w'):Duo w' g x y:=⟨zP hb h.1,zP hb h.2⟩
theorem VecAt.at0 {w:World} {b:Nat} {zs:List Int} (h:VecAt w (some ⟨b,0,none⟩) zs) {k:Nat} (hk:k < zs.length):w.cell? ⟨b,k,none⟩=some (.int .i64 zs[k]):=by
 obtain⟨b',o',h1,h2⟩:=h
 have h3:=h1 (by omega)
 injection h3 with h3
 injection h3 with e1 e2 e3
 subst e1 e2
 have:=h2 k hk
 rwa[Nat.zero_add] at this
theorem i64_bd {B:Int} {zs:List Int} (h:Bd B zs) (hB:B≤9223372036854775807):I64L zs:=fun x hx=>by have:=h x hx;omega
end Go.Proofs.YtojkamfabapcoaaGreatDoor
