/- Short names for the printed functions. -/
import Derived.Test.YtnoafmnjnmlhmaaZDTWApart
import Derived.Test.YtnoafmnjnmlhmaaZDTWEqStruct
import Derived.Test.YtnoafmnjnmlhmaaZDTWFoot
import Derived.Test.YtnoafmnjnmlhmaaZDTWGuard
import Derived.Test.YtnoafmnjnmlhmaaZDTWInv
import Derived.Test.YtnoafmnjnmlhmaaZDTWKept
import Derived.Test.YtnoafmnjnmlhmaaZDTWLast
import Derived.Test.YtnoafmnjnmlhmaaZDTWMore
import Derived.Test.YtnoafmnjnmlhmaaZDTWN
import Derived.Test.YtnoafmnjnmlhmaaZDTWRepsOne
import Derived.Test.YtnoafmnjnmlhmaaZDTWShare
import Derived.Test.YtnoafmnjnmlhmaaZDTWTab
import Derived.Test.YtnoafmnjnmlhmaaZDTWWords
namespace Go.Proofs.Ytnoafmnjnmlhmaa.P
open Go.RowKit Go.Proofs.YtnoafmnjnmlhmaaW.PrintWords Go.Proofs.YtnoafmnjnmlhmaaW.PrintLast Go.Proofs.YtnoafmnjnmlhmaaW.PrintMore
abbrev xN_ := @blk_drewN
abbrev xD_ := @blk_drew
abbrev xA_ := @blk_alloc
abbrev yA_ := @below_alloc
abbrev yN_ := @pw_below_drewN
abbrev yD_ := @below_drew1
abbrev yS_ := @below_set
abbrev xF_ := @blk_frozen
abbrev xC_ := @blk_cell
abbrev xR_ := @blk_far
abbrev T_ : Bool := true
abbrev F_ : Bool := false
abbrev sA_ := @List.setIfInBounds_toArray
abbrev sZ_ := @List.set_cons_zero
abbrev sS_ := @List.set_cons_succ
abbrev hV_ := @Kd.V_mono
abbrev fV_ := @Kd.V_far
abbrev aM_ := @Aside0.mk
abbrev vA_ := @Kd.V_alloc
abbrev vN_ := @Kd.V_drewN
abbrev vD_ := @Kd.V_drew
end Go.Proofs.Ytnoafmnjnmlhmaa.P
