/- Plain arithmetic of the folds: a sum's halves as sums modulo 65521. -/
import Derived.Test.YtgjgdahjjegbiaaSumA
namespace Go.Proofs.Ytgjgdahjjegbiaa.Pl
open Go.RowKit Go.Proofs.Ytgjgdahjjegbiaa.P Go.Proofs.YtgjgdahjjegbiaaW.PrintWords

/-- The sum of all beginnings. -/
def wsum : List Int → Int
  | [] => 0
  | c :: l => ((l.length : Int) + 1) * c + wsum l
theorem wsum_append (a b : List Int) : wsum (a ++ b) = wsum a + (b.length : Int) * a.sum + wsum b := by
  induction a with
  | nil => simp [wsum]
  | cons c a ih =>
    simp only [List.cons_append, wsum, ih, List.sum_cons, List.length_append]
    have e : (((a.length + b.length : Nat) : Int) + 1) * c = ((a.length : Int) + 1) * c + (b.length : Int) * c := by
      rw [Int.natCast_add, show (a.length : Int) + (b.length : Int) + 1 = ((a.length : Int) + 1) + (b.length : Int) by omega, Int.add_mul]
    rw [e, Int.mul_add]
    omega
theorem roll_closed (l : List Int) : ∀ s : Int × Int, ∃ k j : Int, (rollP s l).1 = s.1 + (l.length : Int) * s.2 + wsum l + 65521 * k ∧ (rollP s l).2 = s.2 + l.sum + 65521 * j := by
  induction l with
  | nil => exact fun s => ⟨0, 0, by simp [rollP, wsum], by simp [rollP]⟩
  | cons c l ih =>
    intro s
    obtain ⟨k, j, h1, h2⟩ := ih (stepR s c)
    have e1 : (stepR s c).2 = s.2 + c - 65521 * ((s.2 + c) / 65521) := by unfold stepR; simp only; omega
    have e2 : (stepR s c).1 = s.1 + (stepR s c).2 - 65521 * ((s.1 + (stepR s c).2) / 65521) := by unfold stepR; simp only; omega
    generalize (s.2 + c) / 65521 = q1 at e1
    generalize (s.1 + (stepR s c).2) / 65521 = q2 at e2
    refine ⟨k - q2 - ((l.length : Int) + 1) * q1, j - q1, ?_, ?_⟩
    · show (rollP (stepR s c) l).1 = _
      rw [h1, e2, e1]
      simp only [wsum, List.length_cons]
      grind
    · show (rollP (stepR s c) l).2 = _
      rw [h2, e1]
      simp only [List.sum_cons]
      omega
theorem ofP_closed (l : List Int) : ofP l = (((l.length : Int) + wsum l) % 65521, (1 + l.sum) % 65521) := by
  obtain ⟨k, j, h1, h2⟩ := roll_closed l (0, 1)
  obtain ⟨a, b, c, d⟩ := ofP_in l
  change (ofP l).1 = _ at h1
  change (ofP l).2 = _ at h2
  simp only at h1 h2
  refine Prod.ext ?_ ?_
  · simp only; omega
  · simp only; omega

theorem join_num (a b : List Int) (hb : (b.length : Int) ≤ 1099511627776) : joinSpec (num (ofP a)) (num (ofP b)) (b.length : Int) = num (ofP (a ++ b)) := by
  have ha := ofP_in a; have hb' := ofP_in b
  have h1 := num_high ha; have h2 := num_low ha; have h3 := num_high hb'; have h4 := num_low hb'
  have n1 := num_range ha; have n2 := num_range hb'
  unfold joinSpec
  rw [h1, h2, h3, h4, if_pos]
  · have ea := ofP_closed a; have eb := ofP_closed b; have ec := ofP_closed (a ++ b)
    have s1 : (a ++ b).sum = a.sum + b.sum := by simp
    have s2 := wsum_append a b
    rw [ea, eb, ec, s1, s2]
    unfold num
    simp only [List.length_append]
    rw [Int.natCast_add]
    generalize a.sum = A; generalize b.sum = B; generalize wsum a = WA; generalize wsum b = WB; generalize (b.length : Int) = n at *; generalize (a.length : Int) = m at *
    have p1 : ((1 + A) % 65521 + 65520) % 65521 = A % 65521 := by omega
    rw [p1]
    have p2 : (n % 65521 * (A % 65521)) % 65521 = (n * A) % 65521 := by rw [← Int.mul_emod]
    generalize n % 65521 * (A % 65521) = x at *
    generalize n * A = y at *
    omega
  · unfold InP at ha hb'
    omega

/-! One byte changed; two neighbours swapped. -/
theorem low_eq {l m : List Int} (h : num (ofP l) = num (ofP m)) : (1 + l.sum) % 65521 = (1 + m.sum) % 65521 ∧ ((l.length : Int) + wsum l) % 65521 = ((m.length : Int) + wsum m) % 65521 := by
  have := num_inj (ofP_in l) (ofP_in m) h
  rw [ofP_closed l, ofP_closed m] at this
  exact ⟨congrArg Prod.snd this, congrArg Prod.fst this⟩
theorem one_differs (p q : List Int) (c d : Int) (hc : 0 ≤ c ∧ c ≤ 255) (hd : 0 ≤ d ∧ d ≤ 255) : num (ofP (p ++ c :: q)) = num (ofP (p ++ d :: q)) ↔ c = d := by
  constructor
  · intro h
    have := (low_eq h).1
    simp only [List.sum_append, List.sum_cons] at this
    omega
  · rintro rfl; rfl
theorem swap_differs (p q : List Int) (c d : Int) (hc : 0 ≤ c ∧ c ≤ 255) (hd : 0 ≤ d ∧ d ≤ 255) : num (ofP (p ++ c :: d :: q)) = num (ofP (p ++ d :: c :: q)) ↔ c = d := by
  constructor
  · intro h
    have := (low_eq h).2
    rw [wsum_append, wsum_append] at this
    simp only [List.length_append, List.length_cons, wsum] at this
    have e1 : (((q.length + 1 : Nat) : Int) + 1) * c = ((q.length : Int) + 1) * c + c := by grind
    have e2 : (((q.length + 1 : Nat) : Int) + 1) * d = ((q.length : Int) + 1) * d + d := by grind
    rw [e1, e2] at this
    generalize ((q.length : Int) + 1) * c = x at *
    generalize ((q.length : Int) + 1) * d = y at *
    omega
  · rintro rfl; rfl

/-! One byte over and over. -/
theorem sum_replicate (n : Nat) (b : Int) : (List.replicate n b).sum = (n : Int) * b := by
  induction n with
  | zero => simp
  | succ n ih => rw [List.replicate_succ, List.sum_cons, ih]; grind
theorem wsum_replicate (n : Nat) (b : Int) : 2 * wsum (List.replicate n b) = b * ((n : Int) * ((n : Int) + 1)) := by
  induction n with
  | zero => simp [wsum]
  | succ n ih =>
    rw [List.replicate_succ]
    simp only [wsum, List.length_replicate]
    grind
end Go.Proofs.Ytgjgdahjjegbiaa.Pl
