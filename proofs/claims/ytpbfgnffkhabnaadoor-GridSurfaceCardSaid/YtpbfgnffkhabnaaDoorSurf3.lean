import Derived.Test.YtpbfgnffkhabnaaDoorSurfC
namespace Go.Proofs.YtpbfgnffkhabnaaDoor
set_option maxRecDepth 100000 in
theorem chk_3 : chk 3 = true := by decide +kernel
end Go.Proofs.YtpbfgnffkhabnaaDoor
