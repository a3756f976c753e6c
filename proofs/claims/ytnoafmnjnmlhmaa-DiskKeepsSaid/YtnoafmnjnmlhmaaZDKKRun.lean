/- disk: runs, plainly. -/
import Derived.Test.YtnoafmnjnmlhmaaZDKM2
import Derived.Test.YtnoafmnjnmlhmaaZDKM1
import Derived.Test.YtnoafmnjnmlhmaaZDKKPlain2
set_option linter.unusedVariables false
set_option linter.unusedSimpArgs false
namespace Go.Proofs.Ytnoafmnjnmlhmaa.P
open Go.RowKit Go.Proofs.YtnoafmnjnmlhmaaW.PrintWords Go.Proofs.YtnoafmnjnmlhmaaW.PrintLast Go.Proofs.YtnoafmnjnmlhmaaW.PrintMore
theorem wrt_size (kb : Nat → Bool) : ∀ (r : List S27) (i : Nat) (row : List ByteArray), (∀ x ∈ row, x.size = 32) → (∀ x ∈ r, x.f1.size = 32) → ∀ x ∈ wrt kb i r row, x.size = 32
  | [], _, _, h, _ => h
  | y :: r, i, row, h, hr => by
    rw [wrt]
    refine wrt_size kb r (i + 1) _ ?_ (fun x hx => hr x (List.mem_cons_of_mem _ hx))
    intro x hx
    split at hx
    · rcases List.mem_or_eq_of_mem_set hx with h1 | h1
      · exact h x h1
      · rw [h1]; exact hr y List.mem_cons_self
    · exact h x hx
theorem mayB_mk {s : List ByteArray} {c : List S27} (h1 : 1 ≤ s.length) (h2 : s.length ≤ 512) (h3 : ∀ x ∈ s, x.size = 32) (h4 : ∀ x ∈ c, 0 ≤ x.f0 ∧ x.f0 < (s.length : Int) ∧ x.f1.size = 32) : mayB s c = true := by
  unfold mayB
  simp only [Bool.and_eq_true, decide_eq_true_eq, List.all_eq_true]
  exact ⟨h1, h2, fun x hx => by simpa [secB] using h3 x hx, fun x hx => by simpa [okW] using h4 x hx⟩
theorem mayB_wrt {s : List ByteArray} {c : List S27} (h : mayB s c = true) (kb : Nat → Bool) : mayB (wrt kb 0 c s) [] = true := by
  obtain ⟨h1, h2, h3⟩ := mayB_sec h
  refine mayB_mk (by rw [wrt_length]; exact h1) (by rw [wrt_length]; exact h2) (wrt_size kb c 0 s h3 (fun x hx => (mayB_wr h x hx).2.2)) (fun x hx => by cases hx)
theorem fil_size {x : ByteArray} (h : x.size ≤ 32) : (fil x).size = 32 := by
  unfold fil; rw [ByteArray.size_append, zerosB_size]; omega
theorem mayB_put {s : List ByteArray} {c : List S27} {a : Int} {x : ByteArray} (h : mayB s c = true) (ha : isB s a = true) (hx : x.size ≤ 32) : mayB s (c ++ [⟨a, fil x⟩]) = true := by
  obtain ⟨h1, h2, h3⟩ := mayB_sec h
  refine mayB_mk h1 h2 h3 ?_
  intro y hy
  rcases List.mem_append.1 hy with h4 | h4
  · exact mayB_wr h y h4
  · obtain rfl := List.mem_singleton.1 h4
    unfold isB at ha
    simp only [Bool.and_eq_true, decide_eq_true_eq] at ha
    exact ⟨ha.1, ha.2, fil_size hx⟩
end Go.Proofs.Ytnoafmnjnmlhmaa.P
