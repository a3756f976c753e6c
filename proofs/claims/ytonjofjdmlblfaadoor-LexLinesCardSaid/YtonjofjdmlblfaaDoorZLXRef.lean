/- lex: what the document's One tells is what the program's One tells. -/
import Derived.Test.YtonjofjdmlblfaaDoorZLM0
import Derived.Test.YtonjofjdmlblfaaDoorZLXOneW
set_option linter.unusedVariables false
set_option linter.unusedSimpArgs false
namespace Go.Proofs.YtonjofjdmlblfaaDoor.P
open Go.RowKit Go.Proofs.YtonjofjdmlblfaaDoorW.PrintWords Go.Proofs.YtonjofjdmlblfaaDoorW.PrintLast Go.Proofs.YtonjofjdmlblfaaDoorW.PrintMore
theorem w64 {x : Int} (h0 : -9223372036854775808 ≤ x) (h1 : x ≤ 9223372036854775807) : wrap64 x = x := by
  unfold wrap64; omega
theorem cutW_neg (s : ByteArray) (ws : List S47) (a : Int) : cutW s ws (-1) a = ws := by rw [cutW, if_neg (by omega)]
theorem cutW_pos (s : ByteArray) (ws : List S47) (st j : Nat) : cutW s ws (st : Int) (j : Int) = ws ++ [⟨s.extract st j, (st : Int)⟩] := by
  rw [cutW, if_pos (by omega), Int.toNat_natCast, Int.toNat_natCast]
end Go.Proofs.YtonjofjdmlblfaaDoor.P
