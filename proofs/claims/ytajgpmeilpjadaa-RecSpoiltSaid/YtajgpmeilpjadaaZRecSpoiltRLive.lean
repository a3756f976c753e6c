/- rec's own answers that the law names, by evaluation. -/
import Derived.Test.YtajgpmeilpjadaaZRecSpoiltM3
set_option linter.unusedVariables false
set_option linter.unusedSimpArgs false
namespace Go.Proofs.Ytajgpmeilpjadaa.P
open Go.RowKit Go.Proofs.YtajgpmeilpjadaaW.PrintWords Go.Proofs.YtajgpmeilpjadaaW.PrintLast Go.Proofs.YtajgpmeilpjadaaW.PrintMore
set_option maxRecDepth 1000000 in
theorem live_true : armadalaw03_live.f 500 = some true := by decide +kernel
theorem live_at (k : Nat) (hk : 500 ≤ k) : armadalaw03_live.f k = some true := at_rounds armadalaw03_live.mono hk live_true
end Go.Proofs.Ytajgpmeilpjadaa.P
