/- Words that the printed functions use, those alone that are used here. -/
import Derived.Test.YtnoafmnjnmlhmaaZDKWLast
import Derived.Test.YtnoafmnjnmlhmaaZDKWWords
set_option linter.unusedVariables false
set_option linter.unusedSimpArgs false
namespace Go.Proofs.YtnoafmnjnmlhmaaW.PrintLast
open Go.Proofs.YtnoafmnjnmlhmaaW.PrintWords (Aside0)
section
variable {md : Region.Mode} {ops : Array Oper} {T : Bool × List (List Nat × List Nat)} {l l' li lj lk : Array Bool} {ds : List Nat} {i j k : Nat}
def lastW (T : List (List Nat × List Nat)) (B : List Nat) (l : List Bool) (ds : List Nat) (i : Nat) : Bool := ds.all fun d => l.getD d true || (decide (d < T.length) && (B.getD d 0).testBit i)
end
end Go.Proofs.YtnoafmnjnmlhmaaW.PrintLast
