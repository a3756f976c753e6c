/- VerLine: the order is one order. -/
import Derived.Test.YthoiepkejhhcoaaDoorZVDM5
import Derived.Test.YthoiepkejhhcoaaDoorZVDVLive
import Derived.Test.YthoiepkejhhcoaaDoorZVDVLaws
set_option linter.unusedVariables false
set_option linter.unusedSimpArgs false
namespace Go.Proofs.YthoiepkejhhcoaaDoor.Pure
open Go.RowKit Go.Proofs.YthoiepkejhhcoaaDoor.P Go.Proofs.YthoiepkejhhcoaaDoorW.PrintWords Go.Proofs.YthoiepkejhhcoaaDoorW.PrintLast Go.Proofs.YthoiepkejhhcoaaDoorW.PrintMore
theorem w64 {x : Int} (h0 : -9223372036854775808 ≤ x) (h1 : x < 9223372036854775808) : wrap64 x = x := by unfold wrap64; omega
end Go.Proofs.YthoiepkejhhcoaaDoor.Pure
