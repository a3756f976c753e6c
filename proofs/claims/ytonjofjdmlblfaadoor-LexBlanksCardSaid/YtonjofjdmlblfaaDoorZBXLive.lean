/- lex's own answers that the law names, by evaluation. -/
import Derived.Test.YtonjofjdmlblfaaDoorZBM3
set_option linter.unusedVariables false
set_option linter.unusedSimpArgs false
namespace Go.Proofs.YtonjofjdmlblfaaDoor.P
open Go.RowKit Go.Proofs.YtonjofjdmlblfaaDoorW.PrintWords Go.Proofs.YtonjofjdmlblfaaDoorW.PrintLast Go.Proofs.YtonjofjdmlblfaaDoorW.PrintMore
set_option maxRecDepth 1000000 in
theorem live_30 : armadalaw09_live.f 30 = some true := by decide +kernel
theorem live_true {k : Nat} (hk : 30 ≤ k) : armadalaw09_live.f k = some true := at_rounds armadalaw09_live.mono hk live_30
end Go.Proofs.YtonjofjdmlblfaaDoor.P
