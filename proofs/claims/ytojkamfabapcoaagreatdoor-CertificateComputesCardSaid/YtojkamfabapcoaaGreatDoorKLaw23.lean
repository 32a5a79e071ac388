import Derived.Test.YtojkamfabapcoaaGreatDoorKTerms
import Derived.Test.YtojkamfabapcoaaGreatDoorKLinV
import Derived.Test.YtojkamfabapcoaaGreatDoorListP
import Derived.Test.YtojkamfabapcoaaGreatDoorKAwake
import Derived.Test.YtojkamfabapcoaaGreatDoorKGenS
import Derived.Test.YtojkamfabapcoaaGreatDoorKCodes
set_option maxRecDepth 100000
set_option maxHeartbeats 8000000
set_option linter.unusedSimpArgs false
set_option linter.unusedVariables false
namespace Go.Proofs.YtojkamfabapcoaaGreatDoor
open Go.RowKit Go.Grid
def dotT (T:List (Int × Int)) (y:List Int):Int:=(T.map (fun c=>c.2*y.getD c.1.toNat 0)).sum
def InT (n:Nat) (T:List (Int × Int)):Prop:=∀ c∈T,c.1.toNat < n
def qr (S:Sy) (x y:List Int):Int:=(S.rows.map (fun r=>r.weight*dotT r.sh x*dotT r.sh y)).sum
def unitL (n k:Nat):List Int:=(List.replicate n 0).set k 1
def sy0:Sy:=⟨1,1,1,[],[]⟩
def ze12:List Int:=[0,0,0,0,0,0,0,0,0,0,0,0]
open Go.RowKit Go.Grid Go.Shelf
theorem start_any (W:World) (q:Option Addr) (cap cb co most:Nat) (L:List Int) (w:World) (hm:most≤240) (hp:0 < L.length→q=some ⟨cb,co,none⟩) (hl:L.length≤cap) (hc:cap≤9223372036854775807)
  (hcell:∀ k (h:k < L.length),W.cell? ⟨cb,co+k,none⟩=some (.int .u8 L[k])∧0≤L[k]∧L[k] < 256) (hB:Below W.heap.size W w) :
  Calls Tryz.prog 9 #[.slice q L.length cap,.int .i64 most] w fun e w'=>∃ (g b:Nat) (M:List Int),e=.returned (.pointer (some ⟨g,0,none⟩))∧g=w.heap.size∧Below w.heap.size w w'∧(0 < M.length→b < w.heap.size)∧CodesAt w' g b M 0:=by
 refine (new_any w q cap cb co most L hm hp hl hc (fun k hk=>⟨zP hB (hcell k hk).1,(hcell k hk).2⟩)).mono ?_
 rintro e w' ⟨rfl,hb,b',hb',hC⟩
 exact⟨w.heap.size,b',L.take most,rfl,rfl,hb,fun h0=>hb' (by simp at h0;omega),hC⟩
def Five (w:World) (P:Nat) (f s a:Int) (v1 v2:Value):Prop:=w.cell? ⟨P,0,none⟩=some (.int .i64 f)∧w.cell? ⟨P,1,none⟩=some (.int .i64 s)∧w.cell? ⟨P,2,none⟩=some (.int .i64 a)∧w.cell? ⟨P,3,none⟩=some v1∧w.cell? ⟨P,4,none⟩=some v2
theorem Five.below {w w':World} {P:Nat} {f s a:Int} {v1 v2:Value} (h:Five w P f s a v1 v2) (hb:Below w.heap.size w w'):Five w' P f s a v1 v2:=⟨zP hb h.1,zP hb h.2.1,zP hb h.2.2.1,zP hb h.2.2.2.1,zP hb h.2.2.2.2⟩
theorem Five.turn {w w':World} {P k:Nat} {f s a:Int} {v1 v2:Value} (h:Five w P f s a v1 v2) (hg:w.grownBy w' (some k)) (hne:P≠k):Five w' P f s a v1 v2:=⟨hg.cell h.1 (by simpa using hne),hg.cell h.2.1 (by simpa using hne),hg.cell h.2.2.1 (by simpa using hne),hg.cell h.2.2.2.1 (by simpa using hne),hg.cell h.2.2.2.2 (by simpa using hne)⟩
def Duo (w:World) (g:Nat) (x y:Int):Prop:=w.cell? ⟨g,0,none⟩=some (.int .i64 x)∧w.cell? ⟨g,1,none⟩=some (.int .u64 y)
theorem Duo.below {w w':World} {g:Nat} {x y:Int} (h:Duo w g x y) (hb:Below w.heap.size w w'):Duo w' g x y:=⟨zP hb h.1,zP hb h.2⟩
theorem i64_bd {B:Int} {zs:List Int} (h:Bd B zs) (hB:B≤9223372036854775807):I64L zs:=fun x hx=>by have:=h x hx;omega
end Go.Proofs.YtojkamfabapcoaaGreatDoor
