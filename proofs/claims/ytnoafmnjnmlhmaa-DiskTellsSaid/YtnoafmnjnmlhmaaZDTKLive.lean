/- disk: what live tells. -/
import Derived.Test.YtnoafmnjnmlhmaaZDTM3
import Derived.Test.YtnoafmnjnmlhmaaZDTKPlain2
set_option linter.unusedVariables false
set_option linter.unusedSimpArgs false
namespace Go.Proofs.Ytnoafmnjnmlhmaa.P
open Go.RowKit Go.Proofs.YtnoafmnjnmlhmaaW.PrintWords Go.Proofs.YtnoafmnjnmlhmaaW.PrintLast Go.Proofs.YtnoafmnjnmlhmaaW.PrintMore
set_option maxRecDepth 100000 in
theorem live_f0 : armadalaw01_live.f 60 = some true := by decide +kernel
theorem live_f (k : Nat) (hk : 60 ≤ k) : armadalaw01_live.f k = some true := by
  induction k with
  | zero => omega
  | succ k ih =>
    by_cases h : k + 1 = 60
    · rw [h]; exact live_f0
    · exact armadalaw01_live.mono _ _ (ih (by omega))
end Go.Proofs.Ytnoafmnjnmlhmaa.P
