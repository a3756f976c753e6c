/- lex: pieces of a text, byte by byte; the document's Split is the program's Split. -/
import Derived.Test.YtonjofjdmlblfaaDoorZBM2
import Derived.Test.YtonjofjdmlblfaaDoorZBM0
import Derived.Test.YtonjofjdmlblfaaDoorZBXRef
import Derived.Test.YtonjofjdmlblfaaDoorZBXBlank
set_option linter.unusedVariables false
set_option linter.unusedSimpArgs false
namespace Go.Proofs.YtonjofjdmlblfaaDoor.P
open Go.RowKit Go.Proofs.YtonjofjdmlblfaaDoorW.PrintWords Go.Proofs.YtonjofjdmlblfaaDoorW.PrintLast Go.Proofs.YtonjofjdmlblfaaDoorW.PrintMore
theorem toList_nil (s : ByteArray) : s.toList = ([] : List UInt8) ↔ s.size = 0 := by
  rw [ByteArray.toList_eq, Array.toList_eq_nil_iff]
  constructor
  · intro h; show s.data.size = 0; rw [h]; rfl
  · intro h; exact Array.eq_empty_of_size_eq_zero h
end Go.Proofs.YtonjofjdmlblfaaDoor.P
