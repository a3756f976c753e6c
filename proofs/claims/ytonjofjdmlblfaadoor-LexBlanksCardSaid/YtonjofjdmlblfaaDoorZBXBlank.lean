/- lex: the law's own blank. -/
import Derived.Test.YtonjofjdmlblfaaDoorZBM1
import Derived.Test.YtonjofjdmlblfaaDoorZBXStands
set_option linter.unusedVariables false
set_option linter.unusedSimpArgs false
namespace Go.Proofs.YtonjofjdmlblfaaDoor.P
open Go.RowKit Go.Proofs.YtonjofjdmlblfaaDoorW.PrintWords Go.Proofs.YtonjofjdmlblfaaDoorW.PrintLast Go.Proofs.YtonjofjdmlblfaaDoorW.PrintMore
theorem bt_ext (s : ByteArray) (p a j : Nat) (ha : a ≤ s.size) (hj : p + j < a) : bt (s.extract p a) (j : Int) = bt s ((p + j : Nat) : Int) := by
  have h1 : j < (s.extract p a).size := by rw [ByteArray.size_extract]; omega
  rw [bt_nat _ j h1, bt_nat s (p + j) (by omega), ByteArray.getElem_extract]
end Go.Proofs.YtonjofjdmlblfaaDoor.P
