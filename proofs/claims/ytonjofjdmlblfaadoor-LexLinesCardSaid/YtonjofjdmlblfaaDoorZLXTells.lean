/- lex: the document's Lines are the program's Lines; a line told is the same. -/
import Derived.Test.YtonjofjdmlblfaaDoorZLXSp
import Derived.Test.YtonjofjdmlblfaaDoorZLXStands
import Derived.Test.YtonjofjdmlblfaaDoorZLXLive
import Derived.Test.YtonjofjdmlblfaaDoorZLM3
import Derived.Test.YtonjofjdmlblfaaDoorZLM0
set_option linter.unusedVariables false
set_option linter.unusedSimpArgs false
namespace Go.Proofs.YtonjofjdmlblfaaDoor.P
open Go.RowKit Go.Proofs.YtonjofjdmlblfaaDoorW.PrintWords Go.Proofs.YtonjofjdmlblfaaDoorW.PrintLast Go.Proofs.YtonjofjdmlblfaaDoorW.PrintMore
theorem rdOf_get (d : ByteArray) (l : List ByteArray) (i : Nat) (h : i < l.length) : rdOf d l (i : Int) = l[i] := by
  unfold rdOf
  rw [Int.toNat_natCast, List.getD_eq_getElem?_getD, List.getElem?_eq_getElem h]; rfl
theorem same03_l0 (A B : List ByteArray) (h : A = B) (hw : A.length ≤ 1000000) : ∀ (n i k : Nat), n + i = A.length → n + 1 ≤ k → armadaref03_Same.l0 k A B (i : Int) = some true
  | 0, i, k + 1, hn, hk => by rw [armadaref03_Same.l0, if_neg (by omega)]
  | n + 1, i, k + 1, hn, hk => by
    have e1 : wrap64 ((i : Int) + 1) = ((i + 1 : Nat) : Int) := by rw [w64 (by omega) (by omega)]; omega
    have e2 : B.length = A.length := by rw [h]
    rw [armadaref03_Same.l0, if_pos (by omega), if_pos (by omega), if_pos (by omega), if_pos (by subst h; rfl), e1]
    exact same03_l0 A B h hw n (i + 1) k (by omega) (by omega)
theorem same03_f (A B : List ByteArray) (h : A = B) (hw : A.length ≤ 1000000) (k : Nat) (hk : A.length + 1 ≤ k) : armadaref03_Same.f k A B = some true := by
  unfold armadaref03_Same.f
  rw [if_pos (by rw [h])]
  exact same03_l0 A B h hw A.length 0 k (by omega) hk
end Go.Proofs.YtonjofjdmlblfaaDoor.P
