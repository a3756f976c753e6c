/- disk: lengths of what its functions tell, and their sameness. -/
import Derived.Test.YtnoafmnjnmlhmaaZDKKPlain2
import Derived.Test.YtnoafmnjnmlhmaaZDKKLive
import Derived.Test.YtnoafmnjnmlhmaaZDKKNewC
import Derived.Test.YtnoafmnjnmlhmaaZDKKGetC
set_option linter.unusedVariables false
set_option linter.unusedSimpArgs false
namespace Go.Proofs.Ytnoafmnjnmlhmaa.P
open Go.RowKit Go.Proofs.YtnoafmnjnmlhmaaW.PrintWords Go.Proofs.YtnoafmnjnmlhmaaW.PrintLast Go.Proofs.YtnoafmnjnmlhmaaW.PrintMore
theorem get_f (s : List ByteArray) (c : List S27) (a : Int) : disk_Get.f s c a = some (getZ s c a) := rfl
theorem rsame_self (s : List ByteArray) (c : List S27) (hs : s.length ≤ 1000000) (hc : c.length ≤ 1000000) (k : Nat) (hk : s.length + c.length + 10 ≤ k) : armadaref01_Same.f k s c s c = some true := by
  rw [rsame_f s c s c (by omega) (by omega) k hk, sameB_refl]
end Go.Proofs.Ytnoafmnjnmlhmaa.P
