/- rec.Join: its contract, of the three ways. -/
import Derived.Test.YtajgpmeilpjadaaZRecSpoiltRGJoin2
set_option linter.unusedVariables false
set_option linter.unusedSimpArgs false
namespace Go.Proofs.Ytajgpmeilpjadaa.P
open Go.RowKit Go.Shelf Go.Proofs.YtajgpmeilpjadaaW.PrintWords Go.Proofs.YtajgpmeilpjadaaW.PrintLast Go.Proofs.YtajgpmeilpjadaaW.PrintMore
theorem rec_Join.calls (k : Nat) (A0 : Option Addr) (c0 : Nat) (l0 : List ByteArray) (a1 : Int) (r1 : ByteArray) (r2 : Bool) (w : World) (hr0 : Kd.C Kd.string w A0 l0.length l0) (hc0 : l0.length ≤ c0) (h : rec_Join.f k l0 a1 = some (r1, r2)) :
    Calls Try.prog 15 #[.slice A0 l0.length c0, .int .i64 a1] w fun e w' => e = .returned (.tuple #[.string r1, .bool r2]) ∧ Below w.heap.size w w' := by
  unfold rec_Join.f at h
  obtain ⟨n, hn, h⟩ := Option.bind_eq_some_iff.mp h
  by_cases c1 : n = (l0.length : Int)
  · rw [if_pos c1] at h
    by_cases c2 : odd32 l0 = true
    · rw [if_pos c2] at h
      simp only [Option.some.injEq, Prod.mk.injEq] at h
      obtain ⟨rfl, rfl⟩ := h
      exact join_odd A0 c0 l0 a1 n w hr0 hc0 hn c1 c2
    · rw [if_neg c2] at h
      by_cases c3 : l0.length ≤ 4000000000000
      · rw [if_pos c3] at h
        by_cases c4 : 0 ≤ a1
        · rw [if_pos c4] at h
          by_cases c5 : a1 ≤ ((joined l0).size : Int)
          · rw [if_pos c5] at h
            obtain ⟨cs, hcs, h⟩ := Option.bind_eq_some_iff.mp h
            obtain ⟨q, hq, h⟩ := Option.bind_eq_some_iff.mp h
            have hy := join_yes k A0 c0 l0 a1 n cs w hr0 hc0 hn c1 (Bool.eq_false_iff.mpr c2) c3 c4 c5 hcs q hq
            cases q with
            | true =>
              simp only [if_true, Option.some.injEq, Prod.mk.injEq] at h
              obtain ⟨rfl, rfl⟩ := h
              exact hy
            | false =>
              simp only [Bool.false_eq_true, if_false, Option.some.injEq, Prod.mk.injEq] at h
              obtain ⟨rfl, rfl⟩ := h
              exact hy
          · rw [if_neg c5] at h; cases h
        · rw [if_neg c4] at h; cases h
      · rw [if_neg c3] at h; cases h
  · rw [if_neg c1] at h
    simp only [Option.some.injEq, Prod.mk.injEq] at h
    obtain ⟨rfl, rfl⟩ := h
    exact join_no A0 c0 l0 a1 n w hr0 hc0 hn c1
end Go.Proofs.Ytajgpmeilpjadaa.P
