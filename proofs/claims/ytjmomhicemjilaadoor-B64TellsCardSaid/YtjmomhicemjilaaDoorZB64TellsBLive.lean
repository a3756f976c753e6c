/- b64's own answers that the law names, by evaluation. -/
import Derived.Test.YtjmomhicemjilaaDoorZB64TellsM1
set_option linter.unusedVariables false
set_option linter.unusedSimpArgs false
namespace Go.Proofs.YtjmomhicemjilaaDoor.P
open Go.RowKit Go.Proofs.YtjmomhicemjilaaDoorW.PrintWords Go.Proofs.YtjmomhicemjilaaDoorW.PrintLast Go.Proofs.YtjmomhicemjilaaDoorW.PrintMore
set_option maxRecDepth 1000000 in
theorem live_true : armadalaw13_live.f = some true := by decide +kernel
theorem live_bind : ((armadalaw13_live.f).bind fun t => some t) = some true := by rw [live_true]; rfl
end Go.Proofs.YtjmomhicemjilaaDoor.P
