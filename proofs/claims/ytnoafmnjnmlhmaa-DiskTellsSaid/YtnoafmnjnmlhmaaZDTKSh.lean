/- What is known at a world is known behind it: short forms. -/
import Derived.Test.YtnoafmnjnmlhmaaZDTM0
set_option linter.unusedVariables false
set_option linter.unusedSimpArgs false
namespace Go.Proofs.Ytnoafmnjnmlhmaa.P
open Go.RowKit Go.Proofs.YtnoafmnjnmlhmaaW.PrintWords Go.Proofs.YtnoafmnjnmlhmaaW.PrintLast Go.Proofs.YtnoafmnjnmlhmaaW.PrintMore
section
variable {α : Type} {d : Kd α} {e base g g' : Nat} {ok : Nat → Prop} {v : Value} {xs : List α} {w W W' w1 : World} {o : Obj}
theorem zq (_ : Aside0 (Below w.heap.size w W)) (h : Below W.heap.size W W') (_ : Below W'.heap.size W' w1) : Below W.heap.size W W' := h
theorem zB (h : Aside0 (W.heap[g]? = some o)) (hb : Below W.heap.size W w1) : Aside0 (w1.heap[g]? = some o) := ⟨blk_below h.out hb⟩
theorem zR (h : Aside0 (Kd.R d e W base ok v xs)) (hb : Below W.heap.size W w1) : Aside0 (Kd.R d e w1 base ok v xs) := ⟨Kd.R_below h.out hb⟩
theorem zV (h : Aside0 (Kd.V d e W base ok v xs)) (hb : Below W.heap.size W w1) : Aside0 (Kd.V d e w1 base ok v xs) := ⟨Kd.V_below h.out hb⟩
theorem zE (h : Aside0 (Kd.V d e W base ok v xs)) (hn : Below W.heap.size W W') (hg : g = W'.heap.size) (hb : Below W.heap.size W w1) : Aside0 (Kd.V d e w1 base (fun k => ok k ∧ k ≠ g) v xs) :=
  ⟨Kd.V_below (Kd.V_elderB h.out g (by rw [hg]; exact hn.size)) hb⟩
theorem zH (h : Aside0 (Below w.heap.size w W)) (hb : Below W.heap.size W w1) : Aside0 (Below w.heap.size w w1) := ⟨below_step h.out hb⟩
theorem zG (h : Aside0 (Below w.heap.size w W)) (hn : Below W.heap.size W W') (hg : g = W'.heap.size) : Aside0 (w.heap.size ≤ g) := ⟨by rw [hg]; exact Nat.le_trans h.out.size hn.size⟩
theorem zN (h : Aside0 (W.heap[g]? = some o)) (hn : Below W.heap.size W W') (hg : g' = W'.heap.size) : Aside0 (g ≠ g') := ⟨by rw [hg]; exact Nat.ne_of_lt (Nat.lt_of_lt_of_le (blk_lt h.out) hn.size)⟩
theorem zM (h : Aside0 (W.heap[g]? = some o)) (hn : Below W.heap.size W W') (hg : g' = W'.heap.size) : Aside0 (g' ≠ g) := ⟨by rw [hg]; exact Nat.ne_of_gt (Nat.lt_of_lt_of_le (blk_lt h.out) hn.size)⟩
theorem zs (h : Aside0 (Below w.heap.size w W)) (hn : Below W.heap.size W W') : w.heap.size ≤ W'.heap.size := Nat.le_trans h.out.size hn.size
theorem zf (h : Aside0 (W.heap[g]? = some o)) (hn : Below W.heap.size W W') (k : Nat) (hk : W'.heap.size ≤ k) : k ≠ g := Nat.ne_of_gt (Nat.lt_of_lt_of_le (Nat.lt_of_lt_of_le (blk_lt h.out) hn.size) hk)
theorem zg {k : Nat} (h : Aside0 (w.heap.size ≤ g)) (hs : k < w.heap.size) : k ≠ g := fun e_ => Nat.not_le.2 hs (by rw [e_]; exact h.out)
end
section
variable {α : Type} {d : Kd α} {e base g g' t t' : Nat} {ok : Nat → Prop} {v a b : Value} {xs : List α} {w W W' w1 : World} {o : Obj} {cs : Array Value}
theorem zq2 (_ : Aside0 (Below w.heap.size w W)) (g : Nat) (a b : Value) (h : Below ((W.setCell ⟨g, 0, none⟩ a).setCell ⟨g, 1, none⟩ b).heap.size ((W.setCell ⟨g, 0, none⟩ a).setCell ⟨g, 1, none⟩ b) W') (_ : Below W'.heap.size W' w1) :
    Below ((W.setCell ⟨g, 0, none⟩ a).setCell ⟨g, 1, none⟩ b).heap.size ((W.setCell ⟨g, 0, none⟩ a).setCell ⟨g, 1, none⟩ b) W' := h
theorem zBF (h : Aside0 (W.heap[g']? = some (.cells cs t (0, 0)))) (hne : Aside0 (g' ≠ g)) (hb : Below ((W.setCell ⟨g, 0, none⟩ a).setCell ⟨g, 1, none⟩ b).heap.size ((W.setCell ⟨g, 0, none⟩ a).setCell ⟨g, 1, none⟩ b) w1) : Aside0 (w1.heap[g']? = some (.cells cs t (0, 0))) :=
  ⟨blk_below (blk_far (blk_far h.out (p := ⟨g, 0, none⟩) hne.out _) (p := ⟨g, 1, none⟩) hne.out _) hb⟩
theorem zBP {x y : Value} (h : Aside0 (W.heap[g]? = some (.cells #[x, y] t (0, 0)))) (hb : Below ((W.setCell ⟨g, 0, none⟩ a).setCell ⟨g, 1, none⟩ b).heap.size ((W.setCell ⟨g, 0, none⟩ a).setCell ⟨g, 1, none⟩ b) w1) : Aside0 (w1.heap[g]? = some (.cells #[a, b] t (0, 0))) :=
  ⟨blk_below (blk_put (cs := #[a, y]) (blk_put (cs := #[x, y]) h.out 0 a rfl) 1 b rfl) hb⟩
theorem zF (h : Aside0 (Kd.V d e W base ok v xs)) (hk : ∀ k, ok k → k ≠ g) (hb : Below ((W.setCell ⟨g, 0, none⟩ a).setCell ⟨g, 1, none⟩ b).heap.size ((W.setCell ⟨g, 0, none⟩ a).setCell ⟨g, 1, none⟩ b) w1) : Aside0 (Kd.V d e w1 base ok v xs) :=
  ⟨Kd.V_below (Kd.V_far (p := ⟨g, 1, none⟩) (Kd.V_far (p := ⟨g, 0, none⟩) h.out hk _) hk _) hb⟩
theorem zRF (h : Aside0 (Kd.R d e W base ok v xs)) (hB : Aside0 (W.heap[g]? = some (.cells cs t (0, 0)))) (ht : ∀ q, q ∈ e :: d.E → q ≠ t) (hb : Below ((W.setCell ⟨g, 0, none⟩ a).setCell ⟨g, 1, none⟩ b).heap.size ((W.setCell ⟨g, 0, none⟩ a).setCell ⟨g, 1, none⟩ b) w1) : Aside0 (Kd.R d e w1 base ok v xs) :=
  ⟨Kd.R_below (Kd.R_set (Kd.R_set h.out hB.out ht 0 a) (blk_set hB.out 0 a) ht 1 b) hb⟩
theorem zHF (h : Aside0 (Below w.heap.size w W)) (hg : Aside0 (w.heap.size ≤ g)) (hb : Below ((W.setCell ⟨g, 0, none⟩ a).setCell ⟨g, 1, none⟩ b).heap.size ((W.setCell ⟨g, 0, none⟩ a).setCell ⟨g, 1, none⟩ b) w1) : Aside0 (Below w.heap.size w w1) :=
  ⟨below_step (below_set (below_set h.out hg.out) hg.out) hb⟩
end
end Go.Proofs.Ytnoafmnjnmlhmaa.P
