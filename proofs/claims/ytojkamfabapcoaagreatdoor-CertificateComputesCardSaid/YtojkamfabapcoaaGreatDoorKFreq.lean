import Derived.Test.YtojkamfabapcoaaGreatDoorKPlace
import Derived.Test.YtojkamfabapcoaaGreatDoorGrid
set_option maxRecDepth 100000
set_option maxHeartbeats 8000000
set_option linter.unusedSimpArgs false
set_option linter.unusedVariables false
namespace Go.Proofs.YtojkamfabapcoaaGreatDoor
open Go.RowKit Go.Grid
def freqB (n:Int):Bool:=decide (1≤n∧n≤8)
theorem freqB_t {n:Int} (h:1≤n∧n≤8):freqB n=true:=zDt h
theorem freqB_f {n:Int} (h:¬ (1≤n∧n≤8)):freqB n=false:=zDf h
theorem freq_any (n:Int) (w:World):Calls Tryz.prog 97 #[.int .i64 n] w fun e w'=>e=.returned (.bool (freqB n))∧w=w':=by
 by_cases h:1≤n
 ·by_cases h2:n≤8
  ·have HD:Hid (freqB n=true):=zN (freqB_t ⟨h,h2⟩)
   go_enter Tryz.func97,Tryz.ntmps97
   go_wp2
   go_ret
   rw[HD.out];exact⟨rfl,rfl⟩
  ·have HD:Hid (freqB n=false):=zN (freqB_f (by omega))
   go_enter Tryz.func97,Tryz.ntmps97
   go_wp2
   go_ret
   rw[HD.out];exact⟨rfl,rfl⟩
 ·have HD:Hid (freqB n=false):=zN (freqB_f (by omega))
  go_enter Tryz.func97,Tryz.ntmps97
  go_wp2
  go_ret
  rw[HD.out];exact⟨rfl,rfl⟩
def countI (n:Int):Int:=if 1≤n∧n≤8 then 10*n*n+2 else 0
theorem count_any (n:Int) (w:World):Calls Tryz.prog 56 #[.int .i64 n] w fun e w'=>e=.returned (.int .i64 (countI n))∧w=w':=by
 by_cases h:1≤n∧n≤8
 ·have HC:Hid (countI n=10*n*n+2):=zN (by unfold countI;rw[if_pos h])
  have h1:0≤10*n*n:=Int.mul_nonneg (by omega) (by omega)
  have h2:10*n*n≤640:=by
   have:=Int.mul_le_mul (show 10*n≤80 by omega) h.2 (by omega) (by omega)
   omega
  go_enter Tryz.func56,Tryz.ntmps56
  go_wp2_with fail
  refine (freq_any n _).mono ?_
  rintro e w1 ⟨rfl,rfl⟩
  rw[freqB_t h]
  go_wp2
  go_ret
  rw[HC.out];exact⟨rfl,rfl⟩
 ·have HC:Hid (countI n=0):=zN (by unfold countI;rw[if_neg h])
  go_enter Tryz.func56,Tryz.ntmps56
  go_wp2_with fail
  refine (freq_any n _).mono ?_
  rintro e w1 ⟨rfl,rfl⟩
  rw[freqB_f h]
  go_wp2
  go_ret
  rw[HC.out];exact⟨rfl,rfl⟩
end Go.Proofs.YtojkamfabapcoaaGreatDoor
namespace Go.Grid
theorem nodes_len_all:∀ n:Fin 9,1≤n.val→(nodesL n.val).length=10*n.val*n.val+2:=by decide +kernel
theorem nodes_len {n:Nat} (h1:1≤n) (h2:n≤8):(nodesL n).length=10*n*n+2:=nodes_len_all ⟨n,by omega⟩ h1
end Go.Grid
