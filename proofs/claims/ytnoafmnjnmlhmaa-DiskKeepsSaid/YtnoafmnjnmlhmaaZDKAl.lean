/- Short names for the printed functions. -/
import Derived.Test.YtnoafmnjnmlhmaaZDKWApart
import Derived.Test.YtnoafmnjnmlhmaaZDKWAt
import Derived.Test.YtnoafmnjnmlhmaaZDKWEqStruct
import Derived.Test.YtnoafmnjnmlhmaaZDKWFoot
import Derived.Test.YtnoafmnjnmlhmaaZDKWGuard
import Derived.Test.YtnoafmnjnmlhmaaZDKWInv
import Derived.Test.YtnoafmnjnmlhmaaZDKWKept
import Derived.Test.YtnoafmnjnmlhmaaZDKWLast
import Derived.Test.YtnoafmnjnmlhmaaZDKWMore
import Derived.Test.YtnoafmnjnmlhmaaZDKWN
import Derived.Test.YtnoafmnjnmlhmaaZDKWRepsOne
import Derived.Test.YtnoafmnjnmlhmaaZDKWShare
import Derived.Test.YtnoafmnjnmlhmaaZDKWTab
import Derived.Test.YtnoafmnjnmlhmaaZDKWWords
namespace Go.Proofs.Ytnoafmnjnmlhmaa.P
open Go.RowKit Go.Proofs.YtnoafmnjnmlhmaaW.PrintWords Go.Proofs.YtnoafmnjnmlhmaaW.PrintLast Go.Proofs.YtnoafmnjnmlhmaaW.PrintMore
abbrev xN_ := @blk_drewN
abbrev xD_ := @blk_drew
abbrev xA_ := @blk_alloc
abbrev yA_ := @below_alloc
abbrev yN_ := @pw_below_drewN
abbrev yD_ := @below_drew1
abbrev yS_ := @below_set
abbrev xF_ := @blk_frozen
abbrev xC_ := @blk_cell
abbrev xR_ := @blk_far
end Go.Proofs.Ytnoafmnjnmlhmaa.P
