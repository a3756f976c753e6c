/- Short names for the printed functions. -/
import Derived.Test.YthoiepkejhhcoaaDoorZVQWApart
import Derived.Test.YthoiepkejhhcoaaDoorZVQWEqStruct
import Derived.Test.YthoiepkejhhcoaaDoorZVQWFoot
import Derived.Test.YthoiepkejhhcoaaDoorZVQWGuard
import Derived.Test.YthoiepkejhhcoaaDoorZVQWInv
import Derived.Test.YthoiepkejhhcoaaDoorZVQWKept
import Derived.Test.YthoiepkejhhcoaaDoorZVQWLast
import Derived.Test.YthoiepkejhhcoaaDoorZVQWMore
import Derived.Test.YthoiepkejhhcoaaDoorZVQWN
import Derived.Test.YthoiepkejhhcoaaDoorZVQWRepsOne
import Derived.Test.YthoiepkejhhcoaaDoorZVQWShare
import Derived.Test.YthoiepkejhhcoaaDoorZVQWTab
import Derived.Test.YthoiepkejhhcoaaDoorZVQWWords
namespace Go.Proofs.YthoiepkejhhcoaaDoor.P
open Go.RowKit Go.Proofs.YthoiepkejhhcoaaDoorW.PrintWords Go.Proofs.YthoiepkejhhcoaaDoorW.PrintLast Go.Proofs.YthoiepkejhhcoaaDoorW.PrintMore
abbrev xN_ := @blk_drewN
abbrev xD_ := @blk_drew
abbrev xA_ := @blk_alloc
abbrev yA_ := @below_alloc
abbrev yN_ := @pw_below_drewN
abbrev yD_ := @below_drew1
abbrev yS_ := @below_set
abbrev xF_ := @blk_frozen
abbrev xC_ := @blk_cell
abbrev xR_ := @blk_far
end Go.Proofs.YthoiepkejhhcoaaDoor.P
