/- ver: what Max tells, plainly. -/
import Derived.Test.YthoiepkejhhcoaaDoorZVTM4
import Derived.Test.YthoiepkejhhcoaaDoorZVTVOrd
import Derived.Test.YthoiepkejhhcoaaDoorZVTVParse
set_option linter.unusedVariables false
set_option linter.unusedSimpArgs false
namespace Go.Proofs.YthoiepkejhhcoaaDoor.P
open Go.RowKit Go.Proofs.YthoiepkejhhcoaaDoorW.PrintWords Go.Proofs.YthoiepkejhhcoaaDoorW.PrintLast Go.Proofs.YthoiepkejhhcoaaDoorW.PrintMore
def z0 : Vr := ⟨0, 0, 0, ⟨#[]⟩, ⟨#[]⟩⟩
theorem wsucc (i : Nat) (h : i < 4611686018427387904) : wrap64 ((i : Int) + 1) = ((i + 1 : Nat) : Int) := by unfold wrap64; omega
end Go.Proofs.YthoiepkejhhcoaaDoor.P
