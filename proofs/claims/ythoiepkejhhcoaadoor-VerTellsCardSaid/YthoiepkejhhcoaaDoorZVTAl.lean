/- Short names for the printed functions. -/
import Derived.Test.YthoiepkejhhcoaaDoorZVTWApart
import Derived.Test.YthoiepkejhhcoaaDoorZVTWEqStruct
import Derived.Test.YthoiepkejhhcoaaDoorZVTWFoot
import Derived.Test.YthoiepkejhhcoaaDoorZVTWGuard
import Derived.Test.YthoiepkejhhcoaaDoorZVTWInv
import Derived.Test.YthoiepkejhhcoaaDoorZVTWKept
import Derived.Test.YthoiepkejhhcoaaDoorZVTWLast
import Derived.Test.YthoiepkejhhcoaaDoorZVTWMore
import Derived.Test.YthoiepkejhhcoaaDoorZVTWN
import Derived.Test.YthoiepkejhhcoaaDoorZVTWRepsOne
import Derived.Test.YthoiepkejhhcoaaDoorZVTWShare
import Derived.Test.YthoiepkejhhcoaaDoorZVTWTab
import Derived.Test.YthoiepkejhhcoaaDoorZVTWWords
namespace Go.Proofs.YthoiepkejhhcoaaDoor.P
open Go.RowKit Go.Proofs.YthoiepkejhhcoaaDoorW.PrintWords Go.Proofs.YthoiepkejhhcoaaDoorW.PrintLast Go.Proofs.YthoiepkejhhcoaaDoorW.PrintMore
abbrev xN_ := @blk_drewN
abbrev xD_ := @blk_drew
abbrev xA_ := @blk_alloc
abbrev yA_ := @below_alloc
abbrev yN_ := @pw_below_drewN
abbrev yD_ := @below_drew1
abbrev yS_ := @below_set
abbrev xF_ := @blk_frozen
abbrev xC_ := @blk_cell
abbrev xR_ := @blk_far
end Go.Proofs.YthoiepkejhhcoaaDoor.P
