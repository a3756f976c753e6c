/- rec's Join, of the program and of the document: the same. -/
import Derived.Test.YtajgpmeilpjadaaZRecLongRCut
set_option linter.unusedVariables false
set_option linter.unusedSimpArgs false
namespace Go.Proofs.Ytajgpmeilpjadaa.Pl
set_option linter.unusedSimpArgs false
open Go.RowKit Go.Proofs.Ytajgpmeilpjadaa.P Go.Proofs.YtajgpmeilpjadaaW.PrintWords Go.Proofs.YtajgpmeilpjadaaW.PrintLast Go.Proofs.YtajgpmeilpjadaaW.PrintMore
/-- Do sectors join to a payload of a size? -/
def joins (l : List ByteArray) (n : Int) : Prop := cntP n = (l.length : Int) ∧ odd32 l = false ∧ cutP ((joined l).extract 0 n.toNat) = l
instance (l : List ByteArray) (n : Int) : Decidable (joins l n) := by unfold joins; infer_instance
end Go.Proofs.Ytajgpmeilpjadaa.Pl
