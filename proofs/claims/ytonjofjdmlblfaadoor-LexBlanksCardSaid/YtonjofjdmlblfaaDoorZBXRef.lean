/- lex: what the document's One tells is what the program's One tells. -/
import Derived.Test.YtonjofjdmlblfaaDoorZBM0
import Derived.Test.YtonjofjdmlblfaaDoorZBXOneW
set_option linter.unusedVariables false
set_option linter.unusedSimpArgs false
namespace Go.Proofs.YtonjofjdmlblfaaDoor.P
open Go.RowKit Go.Proofs.YtonjofjdmlblfaaDoorW.PrintWords Go.Proofs.YtonjofjdmlblfaaDoorW.PrintLast Go.Proofs.YtonjofjdmlblfaaDoorW.PrintMore
theorem cutW_neg (s : ByteArray) (ws : List S47) (a : Int) : cutW s ws (-1) a = ws := by rw [cutW, if_neg (by omega)]
theorem cutW_pos (s : ByteArray) (ws : List S47) (st j : Nat) : cutW s ws (st : Int) (j : Int) = ws ++ [⟨s.extract st j, (st : Int)⟩] := by
  rw [cutW, if_pos (by omega), Int.toNat_natCast, Int.toNat_natCast]
end Go.Proofs.YtonjofjdmlblfaaDoor.P
