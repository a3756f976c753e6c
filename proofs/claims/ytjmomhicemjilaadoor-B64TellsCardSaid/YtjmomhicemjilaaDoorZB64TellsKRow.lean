/- Arrays of words that lie in a block of their own: made, read, written, read whole. No program in sight. -/
import Derived.Laws.Rows
import Derived.Below
import Derived.Deep.MidRow
import Derived.Test.YtjmomhicemjilaaDoorZB64TellsWWords
set_option linter.unusedVariables false
set_option linter.unusedSimpArgs false
set_option linter.unusedSimpArgs false
namespace Go.Proofs.YtjmomhicemjilaaDoor.Pl
open Go Go.RowKit Go.Proofs.YtjmomhicemjilaaDoorW.PrintWords
def kints (k : IntKind) (xs : List Int) : Array Value := (xs.map (Value.int k)).toArray
/-- Block g is an array of these numbers of kind k. -/
def KRow (k : IntKind) (w : World) (g t : Nat) (xs : List Int) : Prop := w.heap[g]? = some (.cells (kints k xs) t (0, 0))
theorem KRow.cell {k : IntKind} {w : World} {g t : Nat} {xs : List Int} (h : KRow k w g t xs) (j : Nat) (hj : j < xs.length) : w.cell? ⟨g, j, none⟩ = some (.int k (xs.getD j 0)) := by
  rw [cell_of_row w g j _ _ _ h]
  simp [kints, List.getD_eq_getElem?_getD, List.getElem?_eq_getElem hj]
theorem KRow.frozen {k : IntKind} {w : World} {g t : Nat} {xs : List Int} (h : KRow k w g t xs) (j : Nat) : w.frozen? ⟨g, j, none⟩ = false := by
  unfold KRow at h
  simp [World.frozen?, h]
theorem KRow.alloc (k : IntKind) (w : World) (t : Nat) (xs : List Int) : KRow k (w.alloc (.cells (kints k xs) t)) w.heap.size t xs := _root_.Go.heap_alloc_new w _
theorem KRow.lt {k : IntKind} {w : World} {g t : Nat} {xs : List Int} (h : KRow k w g t xs) : g < w.heap.size := by
  unfold KRow at h
  exact (Array.getElem?_eq_some_iff.1 h).1
theorem KRow.drewN {k : IntKind} {w : World} {g t : Nat} {xs : List Int} (h : KRow k w g t xs) (m : Nat) : KRow k (w.drewN m) g t xs := h
theorem KRow.set {k : IntKind} {w : World} {g t : Nat} {xs : List Int} (h : KRow k w g t xs) (i : Nat) (v : Int) : KRow k (w.setCell ⟨g, i, none⟩ (.int k v)) g t (xs.set i v) := by
  have hl := h.lt
  unfold KRow at h ⊢
  simp only [World.setCell]
  rw [Array.getElem?_modify, if_pos rfl, h]
  simp [kints, List.map_set]
section
variable {k : IntKind} {P : Program} {ops : Array Oper} {rest : List Oper} {o : Oper} {a : Act} {Q : Exit → Act → World → Prop}
theorem run_alloc {W : World} (t : TypeId) (ho : o.op = .alloc t) (cs : Array Value) (hz : (P.info? t).map (·.zero) = some (some (.agg cs))) :
    (execOp a.eval o).run P W = .ok (.value (.pointer (some ⟨W.heap.size, 0, none⟩))) (W.alloc (.cells cs t (0, 0))) := by
  cases hq : P.info? t with
  | none => simp [hq] at hz
  | some i =>
    have hi : i.zero = some (.agg cs) := by simpa [hq] using hz
    unfold execOp
    simp [ho, Instr.alloc, zeroValue, typeInfo, hq, hi, Value.cells, newVar, newRow]
/-- A new array of words. -/
theorem step_alloc {W : World} (N : Tmp) (hgd : o.guard = none) (hd : o.dst = some N) (t : TypeId) (ho : o.op = .alloc t) (xs : List Int) (hz : (P.info? t).map (·.zero) = some (some (.agg (kints k xs))))
    (h : ∀ g, Aside0 (g = W.heap.size) → ∀ w1, Aside0 (KRow k w1 g t xs) → Aside0 (Below W.heap.size W w1) → Aside0 (w1.heap.size = W.heap.size + 1) → wpList P ops Q rest (a.put (some N) (.pointer (some ⟨g, 0, none⟩))) w1) : wpList P ops Q (o :: rest) a W := by
  refine Kd.event_run hgd (run_alloc t ho _ hz) ?_
  rw [hd]
  exact h _ ⟨rfl⟩ _ ⟨KRow.alloc k W t xs⟩ ⟨(Below.refl _ _).alloc (Nat.le_refl _) _⟩ ⟨by simp⟩
end
end Go.Proofs.YtjmomhicemjilaaDoor.Pl
