/- Short names for the printed functions. -/
import Derived.Test.YtnoafmnjnmlhmaaZDPWApart
import Derived.Test.YtnoafmnjnmlhmaaZDPWEqStruct
import Derived.Test.YtnoafmnjnmlhmaaZDPWFoot
import Derived.Test.YtnoafmnjnmlhmaaZDPWGuard
import Derived.Test.YtnoafmnjnmlhmaaZDPWInv
import Derived.Test.YtnoafmnjnmlhmaaZDPWKept
import Derived.Test.YtnoafmnjnmlhmaaZDPWLast
import Derived.Test.YtnoafmnjnmlhmaaZDPWMore
import Derived.Test.YtnoafmnjnmlhmaaZDPWN
import Derived.Test.YtnoafmnjnmlhmaaZDPWRepsOne
import Derived.Test.YtnoafmnjnmlhmaaZDPWShare
import Derived.Test.YtnoafmnjnmlhmaaZDPWTab
import Derived.Test.YtnoafmnjnmlhmaaZDPWWords
namespace Go.Proofs.Ytnoafmnjnmlhmaa.P
open Go.RowKit Go.Proofs.YtnoafmnjnmlhmaaW.PrintWords Go.Proofs.YtnoafmnjnmlhmaaW.PrintLast Go.Proofs.YtnoafmnjnmlhmaaW.PrintMore
abbrev xN_ := @blk_drewN
abbrev xD_ := @blk_drew
abbrev xA_ := @blk_alloc
abbrev yA_ := @below_alloc
abbrev yN_ := @pw_below_drewN
abbrev yD_ := @below_drew1
abbrev yS_ := @below_set
abbrev xF_ := @blk_frozen
abbrev xC_ := @blk_cell
abbrev xR_ := @blk_far
end Go.Proofs.Ytnoafmnjnmlhmaa.P
