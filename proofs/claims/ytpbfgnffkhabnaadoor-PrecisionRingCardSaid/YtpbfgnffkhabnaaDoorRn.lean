import Derived.Test.YtpbfgnffkhabnaaDoorRw
set_option linter.unusedSimpArgs false
set_option linter.unusedVariables false
namespace Go.RX
open Go.RowKit
/-- What floats where loads and checks for nil do. -/
def fN (o : Oper) : Bool := match o.op with
  | .nilCheck .. => true
  | _ => fL o
/-- What floats where checks for nil do, and loads not. -/
def fM (o : Oper) : Bool := match o.op with
  | .nilCheck .. => true
  | _ => fW o
theorem one_nil {P : Program} {ops : Array Oper} {S : World → Prop} {flo : Oper → Bool} {R : Act → World → Prop} {a a' : Act} {w : World} {o : Oper} {x : Operand} {p : Addr} (hw : Region.wanted o (yielded ops a.tmps) = true) (hf : flo o = true) (ho : o.op = .nilCheck x) (hv : a.eval x = .pointer (some p)) (e : a.put o.dst (.pointer (some p)) = a') (h : R a' w) : One P ops flo S R o a w := by
  subst e
  simp only [One, hw, hf, if_true]
  refine ⟨_, fun w hw => ⟨_, ?_, fun _ _ _ => rfl⟩, h⟩
  simp [execOp, ho, hv]
end Go.RX
