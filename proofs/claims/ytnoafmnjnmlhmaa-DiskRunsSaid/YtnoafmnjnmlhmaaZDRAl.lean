/- Short names for the printed functions. -/
import Derived.Test.YtnoafmnjnmlhmaaZDRWApart
import Derived.Test.YtnoafmnjnmlhmaaZDRWEqStruct
import Derived.Test.YtnoafmnjnmlhmaaZDRWFoot
import Derived.Test.YtnoafmnjnmlhmaaZDRWGuard
import Derived.Test.YtnoafmnjnmlhmaaZDRWInv
import Derived.Test.YtnoafmnjnmlhmaaZDRWKept
import Derived.Test.YtnoafmnjnmlhmaaZDRWLast
import Derived.Test.YtnoafmnjnmlhmaaZDRWMore
import Derived.Test.YtnoafmnjnmlhmaaZDRWN
import Derived.Test.YtnoafmnjnmlhmaaZDRWRepsOne
import Derived.Test.YtnoafmnjnmlhmaaZDRWShare
import Derived.Test.YtnoafmnjnmlhmaaZDRWTab
import Derived.Test.YtnoafmnjnmlhmaaZDRWWords
namespace Go.Proofs.Ytnoafmnjnmlhmaa.P
open Go.RowKit Go.Proofs.YtnoafmnjnmlhmaaW.PrintWords Go.Proofs.YtnoafmnjnmlhmaaW.PrintLast Go.Proofs.YtnoafmnjnmlhmaaW.PrintMore
abbrev xN_ := @blk_drewN
abbrev xD_ := @blk_drew
abbrev xA_ := @blk_alloc
abbrev yA_ := @below_alloc
abbrev yN_ := @pw_below_drewN
abbrev yD_ := @below_drew1
abbrev yS_ := @below_set
abbrev xF_ := @blk_frozen
abbrev xC_ := @blk_cell
abbrev xR_ := @blk_far
end Go.Proofs.Ytnoafmnjnmlhmaa.P
