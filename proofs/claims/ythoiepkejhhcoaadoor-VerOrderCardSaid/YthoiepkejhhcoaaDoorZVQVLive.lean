/- ver's own answers that the laws name, by evaluation. -/
import Derived.Test.YthoiepkejhhcoaaDoorZVQM5
import Derived.Test.YthoiepkejhhcoaaDoorZVQVLaws
set_option linter.unusedVariables false
set_option linter.unusedSimpArgs false
namespace Go.Proofs.YthoiepkejhhcoaaDoor.P
open Go.RowKit Go.Proofs.YthoiepkejhhcoaaDoorW.PrintWords Go.Proofs.YthoiepkejhhcoaaDoorW.PrintLast Go.Proofs.YthoiepkejhhcoaaDoorW.PrintMore
set_option maxRecDepth 1000000 in
theorem live_30 : armadalaw07_live.f 30 = some true := by decide +kernel
theorem live_true {k : Nat} (hk : 30 ≤ k) : armadalaw07_live.f k = some true := at_rounds armadalaw07_live.mono hk live_30
end Go.Proofs.YthoiepkejhhcoaaDoor.P
