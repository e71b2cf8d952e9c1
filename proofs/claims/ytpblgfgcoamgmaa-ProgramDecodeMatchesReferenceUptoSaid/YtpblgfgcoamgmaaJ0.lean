import Derived.Test.YtpblgfgcoamgmaaJ3
set_option linter.unusedVariables false
set_option linter.unusedSimpArgs false
set_option maxRecDepth 100000
namespace Go.Proofs.YtpblgfgcoamgmaaS
open Go Go.Proofs.YtpblgfgcoamgmaaV Go.Proofs.Ytpblgfgcoamgmaa

/-- The types of the laws' data. -/
def T : List TypeId := [5, 22]
theorem T_ok : T.all (okT Try.prog T) = true := by kernel_rfl
end Go.Proofs.YtpblgfgcoamgmaaS
