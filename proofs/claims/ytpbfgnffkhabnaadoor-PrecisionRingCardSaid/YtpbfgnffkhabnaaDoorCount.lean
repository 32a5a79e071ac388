import Derived.Test.YtpbfgnffkhabnaaDoorGrid
set_option linter.unusedSimpArgs false
set_option linter.unusedVariables false
namespace Go.Grid
set_option maxRecDepth 100000 in
theorem nodes_len_all : ∀ n : Fin 9, 1 ≤ n.val → (nodesL n.val).length = 10 * n.val * n.val + 2 := by decide +kernel
theorem nodes_len {n : Nat} (h1 : 1 ≤ n) (h2 : n ≤ 8) : (nodesL n).length = 10 * n * n + 2 := nodes_len_all ⟨n, by omega⟩ h1
end Go.Grid
