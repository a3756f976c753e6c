/- Texts, one above the other: as the other one below. -/
import Derived.Test.YthoiepkejhhcoaaDoorZVQM0
import Derived.Laws.Cover1
set_option linter.unusedVariables false
set_option linter.unusedSimpArgs false
namespace Go.Proofs.YthoiepkejhhcoaaDoor.P
theorem less_rev : ∀ a b : List UInt8, (!(Op.bytesLess a b || a == b)) = Op.bytesLess b a
  | [], [] => rfl
  | [], _ :: _ => rfl
  | _ :: _, [] => rfl
  | x :: xs, y :: ys => by
    have ih := less_rev xs ys
    have e : ((x :: xs) == (y :: ys)) = (x == y && xs == ys) := rfl
    rw [Op.bytesLess, Op.bytesLess, e, ← ih]
    by_cases h1 : x < y
    · have h2 : ¬ y < x := by rw [UInt8.lt_iff_toNat_lt] at *; omega
      have h3 : (y == x) = false := beq_eq_false_iff_ne.2 (fun h => by subst h; exact h2 h1)
      rw [decide_eq_true h1, decide_eq_false h2, h3]; simp
    · by_cases h2 : y < x
      · have h3 : (x == y) = false := beq_eq_false_iff_ne.2 (fun h => by subst h; exact h1 h2)
        rw [decide_eq_false h1, decide_eq_true h2, h3]; simp
      · have h3 : x = y := UInt8.toNat_inj.1 (by rw [UInt8.lt_iff_toNat_lt] at h1 h2; omega)
        subst h3
        rw [decide_eq_false h1]; simp
theorem gtr_str (t : TypeId) (a b : ByteArray) : binOp .gtr t (.string a) (.string b) = pure (.bool (Op.bytesLess b.toList a.toList)) := by rw [binOp_string_gtr, less_rev]
/-- Emptiness, as the walk spells it. -/
theorem beq_nil (l : List UInt8) : (l == ([] : List UInt8)) = l.isEmpty := by cases l <;> rfl
end Go.Proofs.YthoiepkejhhcoaaDoor.P
