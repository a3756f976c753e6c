-- PRINTED by print.py (a twelfth state) out of the translation. Not trusted: Lean checks it.
import Derived.Test.YtgjgdahjjegbiaaProg
import Derived.Below
import Derived.Deep.Draws
import Derived.Deep.AppendLies
import Derived.Maps.AppendAt
import Derived.OwnWalk
import Derived.Laws.BytesArg
import Derived.Laws.MakeOwn
import Derived.Laws.OwnMore
import Derived.Deep.OwnRows
import Derived.Tactics
import Derived.Lib.ConvBytes
import Derived.Laws.Slices
import Derived.WalkKit
import Derived.KernelRfl
import Derived.RowKit3
import Derived.Deep.LoopGhost
import Derived.Deep.QuietTactic
import Derived.BigQuiet
import Derived.WideLaws
import Derived.Deep.DeepCutAuto
import Derived.Deep.CutBlock
import Derived.Deep.RegionHeld3
import Derived.Laws.Rows
import Derived.Lib.AppendStr
import Derived.ArgAppend
import Derived.Laws.IdiomCopy
import Derived.OrdersHeld
import Derived.Laws.BitsLemmas
import Derived.RowKit
import Derived.Test.YtgjgdahjjegbiaaWWords
import Derived.Test.YtgjgdahjjegbiaaWLast
import Derived.Test.YtgjgdahjjegbiaaWTab
import Derived.Test.YtgjgdahjjegbiaaWFour
import Derived.Test.YtgjgdahjjegbiaaWQPut
import Derived.Test.YtgjgdahjjegbiaaWApart
import Derived.Test.YtgjgdahjjegbiaaWArr
import Derived.Test.YtgjgdahjjegbiaaWZeros
import Derived.Test.YtgjgdahjjegbiaaWFoot
import Derived.Test.YtgjgdahjjegbiaaWKept
import Derived.Test.YtgjgdahjjegbiaaWShare
import Derived.Test.YtgjgdahjjegbiaaWN
import Derived.Test.YtgjgdahjjegbiaaWFootNe
import Derived.Test.YtgjgdahjjegbiaaWAt
import Derived.Test.YtgjgdahjjegbiaaWEqStruct
import Derived.Test.YtgjgdahjjegbiaaWRepsOne
import Derived.Test.YtgjgdahjjegbiaaWInv
import Derived.Test.YtgjgdahjjegbiaaWInvWords
import Derived.Test.YtgjgdahjjegbiaaWGuard
import Derived.Test.YtgjgdahjjegbiaaWNEv
import Derived.Test.YtgjgdahjjegbiaaWMore
namespace Go.Proofs.Ytgjgdahjjegbiaa.P
open Go.RowKit Go.Proofs.YtgjgdahjjegbiaaW.PrintWords Go.Proofs.YtgjgdahjjegbiaaW.PrintLast Go.Proofs.YtgjgdahjjegbiaaW.PrintMore
attribute [local go_sem] max2_int min2_int max_two min_two max_three min_three max_four min_four   -- for this text's walks alone
set_option linter.unusedVariables false
set_option linter.unusedSimpArgs false



def errW : Option Int → Value
  | none => .nilIface
  | some c => .iface 0 (.int .i64 c)
theorem errW_none : errW none = .nilIface := rfl
theorem errW_some (c : Int) : errW (some c) = .iface 0 (.int .i64 c) := rfl

theorem info5 : (Try.prog.info? 5).map (fun i => (i.zero, i.size, i.bytes)) = some (some (.int .u8 0), 1, 1) := by kernel_rfl
-- the values' own types

end Go.Proofs.Ytgjgdahjjegbiaa.P
