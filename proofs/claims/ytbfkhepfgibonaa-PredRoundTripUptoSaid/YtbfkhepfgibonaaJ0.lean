import Derived.Test.YtbfkhepfgibonaaJ3
set_option linter.unusedVariables false
set_option linter.unusedSimpArgs false
set_option maxRecDepth 100000
namespace Go.Proofs.YtbfkhepfgibonaaS
open Go Go.Proofs.YtbfkhepfgibonaaV Go.Proofs.Ytbfkhepfgibonaa

/-- The types of the laws' data. -/
def T : List TypeId := [2, 3, 4, 5, 9, 22, 23, 24, 25, 26, 27, 28, 29, 36, 37, 38, 39, 44, 47, 48]
theorem T_ok : T.all (okT Try.prog T) = true := by kernel_rfl
end Go.Proofs.YtbfkhepfgibonaaS
