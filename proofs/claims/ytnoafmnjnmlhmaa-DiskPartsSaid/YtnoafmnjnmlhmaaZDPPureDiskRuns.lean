/- DiskRuns, plainly. -/
import Derived.Test.YtnoafmnjnmlhmaaZDPM3
import Derived.Test.YtnoafmnjnmlhmaaZDPKHelp
import Derived.Test.YtnoafmnjnmlhmaaZDPKRun
set_option linter.unusedVariables false
set_option linter.unusedSimpArgs false
namespace Go.Proofs.Ytnoafmnjnmlhmaa.Pure
open Go.RowKit Go.Proofs.YtnoafmnjnmlhmaaW.PrintWords Go.Proofs.YtnoafmnjnmlhmaaW.PrintLast Go.Proofs.YtnoafmnjnmlhmaaW.PrintMore Go.Proofs.Ytnoafmnjnmlhmaa.P
theorem step_len (s : List ByteArray) (c : List S27) (x : S49) : (stepZ s c x).1.length = s.length ∧ (stepZ s c x).2.1.length ≤ c.length + 1 := by
  unfold stepZ
  split
  · have := flush_len s c; exact ⟨this.1, by omega⟩
  · have := put_len s c x.f1 x.f2; exact ⟨by rw [this.1], this.2⟩
theorem runL_len (s0 : List ByteArray) (c0 : List S27) : ∀ (l : List S49) (s : List ByteArray) (c : List S27), s.length = s0.length → (runL s0 c0 l s c).1.length = s0.length ∧ (runL s0 c0 l s c).2.1.length ≤ c0.length + c.length + l.length
  | [], s, c, h => ⟨h, by show c.length ≤ c0.length + c.length + 0; omega⟩
  | x :: r, s, c, h => by
    rw [runL]
    have g := step_len s c x
    split
    · have := runL_len s0 c0 r _ (stepZ s c x).2.1 (g.1.trans h)
      rw [List.length_cons]; exact ⟨this.1, by omega⟩
    · rw [List.length_cons]; exact ⟨rfl, by show c0.length ≤ _; omega⟩
theorem runZ_len2 (s : List ByteArray) (c : List S27) (l : List S49) : (runZ s c l).1.length = s.length ∧ (runZ s c l).2.1.length ≤ c.length + c.length + l.length := by
  unfold runZ
  split
  · exact runL_len s c l s c rfl
  · exact ⟨rfl, by show c.length ≤ _; omega⟩
theorem fewB_lim {l : List S49} (h : fewB l = true) : l.length ≤ 200 ∧ ∀ x ∈ l, x.f2.size ≤ 100 := by
  unfold fewB at h
  simp only [Bool.and_eq_true, List.all_eq_true, decide_eq_true_eq] at h
  exact ⟨h.2, h.1⟩
end Go.Proofs.Ytnoafmnjnmlhmaa.Pure
