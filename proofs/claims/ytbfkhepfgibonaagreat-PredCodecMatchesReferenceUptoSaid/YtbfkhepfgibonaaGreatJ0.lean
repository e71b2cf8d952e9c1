import Derived.Test.YtbfkhepfgibonaaGreatJ4
set_option linter.unusedVariables false
set_option linter.unusedSimpArgs false
set_option maxRecDepth 100000
namespace Go.Proofs.YtbfkhepfgibonaaGreatS
open Go Go.Proofs.YtbfkhepfgibonaaGreatV Go.Proofs.YtbfkhepfgibonaaGreat

/-- The types of the laws' data. -/
def T : List TypeId := [2, 3, 4, 5, 9, 22, 23, 24, 25, 26, 27, 28, 37, 38, 39, 42, 50, 51, 52, 53, 58, 59]
theorem T_ok : T.all (okT Tryz.prog T) = true := by kernel_rfl
end Go.Proofs.YtbfkhepfgibonaaGreatS
