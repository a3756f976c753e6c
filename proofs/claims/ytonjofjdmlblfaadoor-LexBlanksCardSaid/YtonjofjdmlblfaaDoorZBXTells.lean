/- lex: the document's Lines are the program's Lines; a line told is the same. -/
import Derived.Test.YtonjofjdmlblfaaDoorZBXSp
import Derived.Test.YtonjofjdmlblfaaDoorZBXStands
import Derived.Test.YtonjofjdmlblfaaDoorZBXLive
import Derived.Test.YtonjofjdmlblfaaDoorZBM3
import Derived.Test.YtonjofjdmlblfaaDoorZBM0
set_option linter.unusedVariables false
set_option linter.unusedSimpArgs false
namespace Go.Proofs.YtonjofjdmlblfaaDoor.P
open Go.RowKit Go.Proofs.YtonjofjdmlblfaaDoorW.PrintWords Go.Proofs.YtonjofjdmlblfaaDoorW.PrintLast Go.Proofs.YtonjofjdmlblfaaDoorW.PrintMore
theorem row_len {s : ByteArray} : ∀ {p : Nat} {l : List S47} {q : Nat}, Row s p l q → l.length + p ≤ q
  | p, [], q, h => by obtain rfl : p = q := h; simp
  | p, w :: l, q, ⟨a, b, g1, g2, g3, g4, g5, g6⟩ => by have := row_len g6; rw [List.length_cons]; omega
theorem one_some (x : ByteArray) (hx : x.size ≤ 1000000) : ∃ ws note e, lex_One.f x = some (ws, note, e) ∧ ws.length ≤ x.size := by
  unfold lex_One.f
  rw [if_pos hx]
  by_cases c : anyOdd x x.size 0 = true
  · rw [if_pos c]; exact ⟨_, _, _, rfl, by simp⟩
  · rw [if_neg c]
    obtain ⟨q, r, h1, h2, h3, _, _⟩ := scan_all x
    exact ⟨_, _, _, rfl, by have := row_len h1; omega⟩
theorem rd47_get (l : List S47) (i : Nat) (h : i < l.length) : rd_T47 l (i : Int) = l[i] := by
  unfold rd_T47
  rw [Int.toNat_natCast, List.getD_eq_getElem?_getD, List.getElem?_eq_getElem h]; rfl
end Go.Proofs.YtonjofjdmlblfaaDoor.P
