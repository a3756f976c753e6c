/- disk: runs, plainly. -/
import Derived.Test.YtnoafmnjnmlhmaaZDLM2
import Derived.Test.YtnoafmnjnmlhmaaZDLM1
import Derived.Test.YtnoafmnjnmlhmaaZDLKPlain2
set_option linter.unusedVariables false
set_option linter.unusedSimpArgs false
namespace Go.Proofs.Ytnoafmnjnmlhmaa.P
open Go.RowKit Go.Proofs.YtnoafmnjnmlhmaaW.PrintWords Go.Proofs.YtnoafmnjnmlhmaaW.PrintLast Go.Proofs.YtnoafmnjnmlhmaaW.PrintMore
theorem mayB_mk {s : List ByteArray} {c : List S27} (h1 : 1 ≤ s.length) (h2 : s.length ≤ 512) (h3 : ∀ x ∈ s, x.size = 32) (h4 : ∀ x ∈ c, 0 ≤ x.f0 ∧ x.f0 < (s.length : Int) ∧ x.f1.size = 32) : mayB s c = true := by
  unfold mayB
  simp only [Bool.and_eq_true, decide_eq_true_eq, List.all_eq_true]
  exact ⟨h1, h2, fun x hx => by simpa [secB] using h3 x hx, fun x hx => by simpa [okW] using h4 x hx⟩
theorem fil_size {x : ByteArray} (h : x.size ≤ 32) : (fil x).size = 32 := by
  unfold fil; rw [ByteArray.size_append, zerosB_size]; omega
theorem mayB_put {s : List ByteArray} {c : List S27} {a : Int} {x : ByteArray} (h : mayB s c = true) (ha : isB s a = true) (hx : x.size ≤ 32) : mayB s (c ++ [⟨a, fil x⟩]) = true := by
  obtain ⟨h1, h2, h3⟩ := mayB_sec h
  refine mayB_mk h1 h2 h3 ?_
  intro y hy
  rcases List.mem_append.1 hy with h4 | h4
  · exact mayB_wr h y h4
  · obtain rfl := List.mem_singleton.1 h4
    unfold isB at ha
    simp only [Bool.and_eq_true, decide_eq_true_eq] at ha
    exact ⟨ha.1, ha.2, fil_size hx⟩
end Go.Proofs.Ytnoafmnjnmlhmaa.P
