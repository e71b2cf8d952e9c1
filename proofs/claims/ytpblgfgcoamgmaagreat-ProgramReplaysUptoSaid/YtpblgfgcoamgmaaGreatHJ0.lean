import Derived.Test.YtpblgfgcoamgmaaGreatG8
set_option linter.unusedVariables false
set_option linter.unusedSimpArgs false
set_option maxRecDepth 100000
namespace Go.Proofs.YtpblgfgcoamgmaaGreatS
open Go Go.Proofs.YtpblgfgcoamgmaaGreatV Go.Proofs.YtpblgfgcoamgmaaGreat

/-- The types of the laws' data. -/
def T : List TypeId := [2, 3, 4, 5, 9, 62, 22, 23, 24, 26, 37, 38, 40, 42, 58, 81, 124, 129]
theorem T_ok : T.all (okT Tryz.prog T) = true := by kernel_rfl
end Go.Proofs.YtpblgfgcoamgmaaGreatS
