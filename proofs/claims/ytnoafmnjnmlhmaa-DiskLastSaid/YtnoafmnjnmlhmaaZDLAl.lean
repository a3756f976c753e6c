/- Short names for the printed functions. -/
import Derived.Test.YtnoafmnjnmlhmaaZDLWApart
import Derived.Test.YtnoafmnjnmlhmaaZDLWAt
import Derived.Test.YtnoafmnjnmlhmaaZDLWEqStruct
import Derived.Test.YtnoafmnjnmlhmaaZDLWFoot
import Derived.Test.YtnoafmnjnmlhmaaZDLWGuard
import Derived.Test.YtnoafmnjnmlhmaaZDLWInv
import Derived.Test.YtnoafmnjnmlhmaaZDLWKept
import Derived.Test.YtnoafmnjnmlhmaaZDLWLast
import Derived.Test.YtnoafmnjnmlhmaaZDLWMore
import Derived.Test.YtnoafmnjnmlhmaaZDLWN
import Derived.Test.YtnoafmnjnmlhmaaZDLWRepsOne
import Derived.Test.YtnoafmnjnmlhmaaZDLWShare
import Derived.Test.YtnoafmnjnmlhmaaZDLWTab
import Derived.Test.YtnoafmnjnmlhmaaZDLWWords
namespace Go.Proofs.Ytnoafmnjnmlhmaa.P
open Go.RowKit Go.Proofs.YtnoafmnjnmlhmaaW.PrintWords Go.Proofs.YtnoafmnjnmlhmaaW.PrintLast Go.Proofs.YtnoafmnjnmlhmaaW.PrintMore
abbrev xN_ := @blk_drewN
abbrev xD_ := @blk_drew
abbrev xA_ := @blk_alloc
abbrev yA_ := @below_alloc
abbrev yN_ := @pw_below_drewN
abbrev yD_ := @below_drew1
abbrev yS_ := @below_set
abbrev xF_ := @blk_frozen
abbrev xC_ := @blk_cell
abbrev xR_ := @blk_far
end Go.Proofs.Ytnoafmnjnmlhmaa.P
