/- lex: the document's Lines are the program's Lines; a line told is the same. -/
import Derived.Test.YtonjofjdmlblfaaDoorZRXSp
import Derived.Test.YtonjofjdmlblfaaDoorZRXStands
import Derived.Test.YtonjofjdmlblfaaDoorZRXLive
import Derived.Test.YtonjofjdmlblfaaDoorZRM3
import Derived.Test.YtonjofjdmlblfaaDoorZRM0
set_option linter.unusedVariables false
set_option linter.unusedSimpArgs false
namespace Go.Proofs.YtonjofjdmlblfaaDoor.P
open Go.RowKit Go.Proofs.YtonjofjdmlblfaaDoorW.PrintWords Go.Proofs.YtonjofjdmlblfaaDoorW.PrintLast Go.Proofs.YtonjofjdmlblfaaDoorW.PrintMore
theorem row_len {s : ByteArray} : ∀ {p : Nat} {l : List S47} {q : Nat}, Row s p l q → l.length + p ≤ q
  | p, [], q, h => by obtain rfl : p = q := h; simp
  | p, w :: l, q, ⟨a, b, g1, g2, g3, g4, g5, g6⟩ => by have := row_len g6; rw [List.length_cons]; omega
theorem one_some (x : ByteArray) (hx : x.size ≤ 1000000) : ∃ ws note e, lex_One.f x = some (ws, note, e) ∧ ws.length ≤ x.size := by
  unfold lex_One.f
  rw [if_pos hx]
  by_cases c : anyOdd x x.size 0 = true
  · rw [if_pos c]; exact ⟨_, _, _, rfl, by simp⟩
  · rw [if_neg c]
    obtain ⟨q, r, h1, h2, h3, _, _⟩ := scan_all x
    exact ⟨_, _, _, rfl, by have := row_len h1; omega⟩
theorem rd47_get (l : List S47) (i : Nat) (h : i < l.length) : rd_T47 l (i : Int) = l[i] := by
  unfold rd_T47
  rw [Int.toNat_natCast, List.getD_eq_getElem?_getD, List.getElem?_eq_getElem h]; rfl
theorem told_l0 (ws : List S47) (note note2 : ByteArray) (hw : ws.length ≤ 1000000) : ∀ (n i k : Nat) (acc : List S58), n + i = ws.length → acc.length = i → n + 1 ≤ k → armadalaw09_told.l0 k (i : Int) ws note acc note2 = some (acc ++ (ws.drop i).map cv, note2)
  | 0, i, k + 1, acc, hn, ha, hk => by
    rw [armadalaw09_told.l0, if_neg (by omega), List.drop_of_length_le (by omega)]; simp
  | n + 1, i, k + 1, acc, hn, ha, hk => by
    have hi : i < ws.length := by omega
    have e1 : wrap64 ((i : Int) + 1) = ((i + 1 : Nat) : Int) := by rw [w64 (by omega) (by omega)]; omega
    rw [armadalaw09_told.l0, if_pos (by omega), if_pos (by omega), if_pos (by omega), rd47_get _ _ hi, e1, told_l0 ws note note2 hw n (i + 1) k _ (by omega) (by rw [List.length_append, ha]; rfl) (by omega), List.drop_eq_getElem_cons hi, List.append_assoc]
    rfl
theorem told_f (ws : List S47) (note : ByteArray) (hw : ws.length ≤ 1000000) (k : Nat) (hk : ws.length + 1 ≤ k) : armadalaw09_told.f k ws note = some (ws.map cv, note) := by
  unfold armadalaw09_told.f
  have := told_l0 ws note note hw ws.length 0 k [] (by omega) rfl hk
  exact this
theorem same_l0 (A B : List S58) (a b : ByteArray) (h : A = B) (hw : A.length ≤ 1000000) : ∀ (n i k : Nat), n + i = A.length → n + 1 ≤ k → armadaref09_Same.l0 k (i : Int) A a B b = some true
  | 0, i, k + 1, hn, hk => by rw [armadaref09_Same.l0, if_neg (by omega)]
  | n + 1, i, k + 1, hn, hk => by
    have e1 : wrap64 ((i : Int) + 1) = ((i + 1 : Nat) : Int) := by rw [w64 (by omega) (by omega)]; omega
    have e2 : B.length = A.length := by rw [h]
    rw [armadaref09_Same.l0, if_pos (by omega), if_pos (by omega), if_pos (by omega), e1, if_neg (by subst h; simp)]
    exact same_l0 A B a b h hw n (i + 1) k (by omega) (by omega)
theorem same_f (A B : List S58) (a b : ByteArray) (h : A = B) (hab : a = b) (hw : A.length ≤ 1000000) (k : Nat) (hk : A.length + 2 ≤ k) : armadaref09_Same.f k A a B b = some true := by
  subst hab h
  obtain ⟨k, rfl⟩ : ∃ k', k = k' + 1 := ⟨k - 1, by omega⟩
  unfold armadaref09_Same.f
  rw [if_pos rfl, armadaref09_Same.j0, if_neg (by simp)]
  exact same_l0 A A a a rfl hw A.length 0 k (by omega) (by omega)
end Go.Proofs.YtonjofjdmlblfaaDoor.P
