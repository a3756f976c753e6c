/- ver: what Max tells, plainly. -/
import Derived.Test.YthoiepkejhhcoaaDoorZVPM3
import Derived.Test.YthoiepkejhhcoaaDoorZVPVLaws
set_option linter.unusedVariables false
set_option linter.unusedSimpArgs false
namespace Go.Proofs.YthoiepkejhhcoaaDoor.P
open Go.RowKit Go.Proofs.YthoiepkejhhcoaaDoorW.PrintWords Go.Proofs.YthoiepkejhhcoaaDoorW.PrintLast Go.Proofs.YthoiepkejhhcoaaDoorW.PrintMore
def z0 : Vr := ⟨0, 0, 0, ⟨#[]⟩, ⟨#[]⟩⟩
end Go.Proofs.YthoiepkejhhcoaaDoor.P
