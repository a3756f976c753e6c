/- lex: where the words of One stand. -/
import Derived.Test.YtonjofjdmlblfaaDoorZBXRef
set_option linter.unusedVariables false
set_option linter.unusedSimpArgs false
namespace Go.Proofs.YtonjofjdmlblfaaDoor.P
open Go.RowKit Go.Proofs.YtonjofjdmlblfaaDoorW.PrintWords Go.Proofs.YtonjofjdmlblfaaDoorW.PrintLast Go.Proofs.YtonjofjdmlblfaaDoorW.PrintMore
def blanks (s : ByteArray) (p a : Nat) : Prop := ∀ j, p ≤ j → j < a → blC (bt s (j : Int)) = true
/-- From p on these words stand in order, blanks alone between; the last one ends at q. -/
def Row (s : ByteArray) : Nat → List S47 → Nat → Prop
  | p, [], q => p = q
  | p, w :: ws, q => ∃ a b, p ≤ a ∧ a < b ∧ b ≤ s.size ∧ w = ⟨s.extract a b, (a : Int)⟩ ∧ blanks s p a ∧ Row s b ws q
theorem Row.add {s : ByteArray} {a b : Nat} : ∀ {p : Nat} {ws : List S47} {q : Nat}, Row s p ws q → q ≤ a → a < b → b ≤ s.size → blanks s q a → Row s p (ws ++ [⟨s.extract a b, (a : Int)⟩]) b
  | p, [], q, h, h1, h2, h3, h4 => by
    obtain rfl : p = q := h
    exact ⟨a, b, h1, h2, h3, rfl, h4, rfl⟩
  | p, w :: ws, q, ⟨a', b', g1, g2, g3, g4, g5, g6⟩, h1, h2, h3, h4 => ⟨a', b', g1, g2, g3, g4, g5, Row.add g6 h1 h2 h3 h4⟩
theorem blanks_self (s : ByteArray) (p : Nat) : blanks s p p := fun j h1 h2 => by omega
theorem blanks_add {s : ByteArray} {p a : Nat} (h : blanks s p a) (hb : blC (bt s (a : Int)) = true) : blanks s p (a + 1) := fun j h1 h2 => by
  by_cases c : j = a
  · subst c; exact hb
  · exact h j h1 (by omega)
/-- What is known in the middle of a line. -/
def Mid (s : ByteArray) (i : Nat) (ws : List S47) (f : Int) : Prop :=
  (f = -1 ∧ ∃ q, Row s 0 ws q ∧ q ≤ i ∧ blanks s q i) ∨ (∃ st : Nat, f = (st : Int) ∧ st < i ∧ ∃ q, Row s 0 ws q ∧ q ≤ st ∧ blanks s q st)
theorem Mid.cut {s : ByteArray} {i : Nat} {ws : List S47} {f : Int} (h : Mid s i ws f) (hi : i ≤ s.size) : ∃ q, Row s 0 (cutW s ws f (i : Int)) q ∧ q ≤ i ∧ blanks s q i := by
  rcases h with ⟨rfl, h⟩ | ⟨st, rfl, hst, q, h1, h2, h3⟩
  · rw [cutW_neg]; exact h
  · rw [cutW_pos]; exact ⟨i, h1.add h2 hst hi h3, Nat.le_refl _, blanks_self s i⟩
theorem Mid.next {s : ByteArray} {i : Nat} {ws : List S47} {f : Int} (h : Mid s i ws f) (hi : i < s.size) : Mid s (i + 1) (next s i ws f).1 (next s i ws f).2 := by
  obtain ⟨q, h1, h2, h3⟩ := h.cut (by omega)
  unfold P.next
  by_cases cs : sepC (bt s (i : Int)) = true
  · rw [if_pos cs]
    exact .inl ⟨rfl, i + 1, h1.add h2 (by omega) (by omega) h3, Nat.le_refl _, blanks_self s _⟩
  · rw [if_neg cs]
    by_cases cb : blC (bt s (i : Int)) = true
    · rw [if_pos cb]
      exact .inl ⟨rfl, q, h1, by omega, blanks_add h3 cb⟩
    · rw [if_neg cb]
      rcases h with ⟨rfl, q, h1, h2, h3⟩ | ⟨st, rfl, hst, q, h1, h2, h3⟩
      · rw [if_pos (by omega)]
        exact .inr ⟨i, rfl, by omega, q, h1, h2, h3⟩
      · rw [if_neg (by omega)]
        exact .inr ⟨st, rfl, by omega, q, h1, h2, h3⟩
theorem scan_row (s : ByteArray) : ∀ (n i : Nat) (ws : List S47) (f : Int), n + i = s.size → Mid s i ws f →
    ∃ q r, Row s 0 (scan s n i ws f).1 q ∧ q ≤ r ∧ r ≤ s.size ∧ blanks s q r ∧ (scan s n i ws f).2 = s.extract r s.size
  | 0, i, ws, f, hn, h => by
    obtain rfl : i = s.size := by omega
    obtain ⟨q, h1, h2, h3⟩ := h.cut (Nat.le_refl _)
    refine ⟨q, s.size, h1, h2, Nat.le_refl _, h3, ?_⟩
    have hz : (s.extract s.size s.size).size = 0 := by rw [ByteArray.size_extract]; omega
    exact (ByteArray.size_eq_zero_iff.1 hz).symm
  | n + 1, i, ws, f, hn, h => by
    unfold scan
    by_cases c : f < 0 ∧ isNote s i = true
    · rw [if_pos c]
      rcases h with ⟨rfl, q, h1, h2, h3⟩ | ⟨st, rfl, _⟩
      · exact ⟨q, i, h1, h2, by omega, h3, rfl⟩
      · omega
    · rw [if_neg c]
      exact scan_row s n (i + 1) _ _ (by omega) (h.next (by omega))
theorem scan_all (s : ByteArray) : ∃ q r, Row s 0 (scan s s.size 0 [] (-1)).1 q ∧ q ≤ r ∧ r ≤ s.size ∧ blanks s q r ∧ (scan s s.size 0 [] (-1)).2 = s.extract r s.size :=
  scan_row s s.size 0 [] (-1) (by omega) (.inl ⟨rfl, 0, rfl, Nat.le_refl _, blanks_self s 0⟩)
end Go.Proofs.YtonjofjdmlblfaaDoor.P
