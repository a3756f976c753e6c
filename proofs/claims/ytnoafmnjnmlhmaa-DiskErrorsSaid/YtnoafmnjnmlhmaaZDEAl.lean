/- Short names for the printed functions. -/
import Derived.Test.YtnoafmnjnmlhmaaZDEWApart
import Derived.Test.YtnoafmnjnmlhmaaZDEWAt
import Derived.Test.YtnoafmnjnmlhmaaZDEWEqStruct
import Derived.Test.YtnoafmnjnmlhmaaZDEWFoot
import Derived.Test.YtnoafmnjnmlhmaaZDEWGuard
import Derived.Test.YtnoafmnjnmlhmaaZDEWInv
import Derived.Test.YtnoafmnjnmlhmaaZDEWKept
import Derived.Test.YtnoafmnjnmlhmaaZDEWLast
import Derived.Test.YtnoafmnjnmlhmaaZDEWMore
import Derived.Test.YtnoafmnjnmlhmaaZDEWN
import Derived.Test.YtnoafmnjnmlhmaaZDEWRepsOne
import Derived.Test.YtnoafmnjnmlhmaaZDEWShare
import Derived.Test.YtnoafmnjnmlhmaaZDEWTab
import Derived.Test.YtnoafmnjnmlhmaaZDEWWords
namespace Go.Proofs.Ytnoafmnjnmlhmaa.P
open Go.RowKit Go.Proofs.YtnoafmnjnmlhmaaW.PrintWords Go.Proofs.YtnoafmnjnmlhmaaW.PrintLast Go.Proofs.YtnoafmnjnmlhmaaW.PrintMore
abbrev xN_ := @blk_drewN
abbrev xD_ := @blk_drew
abbrev xA_ := @blk_alloc
abbrev yA_ := @below_alloc
abbrev yN_ := @pw_below_drewN
abbrev yD_ := @below_drew1
abbrev yS_ := @below_set
abbrev xF_ := @blk_frozen
abbrev xC_ := @blk_cell
abbrev xR_ := @blk_far
end Go.Proofs.Ytnoafmnjnmlhmaa.P
