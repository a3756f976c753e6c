/- A region that draws its order, whose operations but the last few read or call quietly (callees may draw), and whose last few stand in one order: one walk of the text's order serves every order. -/
import Derived.StillTail
import Derived.Deep.QuietTactic
set_option linter.unusedVariables false
set_option linter.unusedSimpArgs false
namespace Go.Proofs.YtonjofjdmlblfaaDoor.Q
open Go
section
variable {P : Program} {ops : Array Oper} {md : Region.Mode} {C : World → Prop}
def anyT (P : Program) (md : Region.Mode) (ops : Array Oper) (C : World → Prop) (n : Nat) (L : Array Bool → Act → Prop) : Nat → Array Bool → Act → Prop
  | 0, listed, a => L listed a
  | f + 1, listed, a => Region.ready md ops listed ≠ [] ∧ ∀ i ∈ Region.ready md ops listed, i < n ∧ qOp P ops C i (anyT P md ops C n L f (listed.setIfInBounds i true)) a
end
end Go.Proofs.YtonjofjdmlblfaaDoor.Q
