/- Arrays of words that lie in a block of their own: made, read, written, read whole. No program in sight. -/
import Derived.Laws.Rows
import Derived.Below
import Derived.Deep.MidRow
import Derived.Test.YtkejacgedipoeaaWWords
set_option linter.unusedSimpArgs false
namespace Go.Proofs.Ytkejacgedipoeaa.Pl
open Go Go.RowKit Go.Proofs.YtkejacgedipoeaaW.PrintWords

def u32s (xs : List Int) : Array Value := (xs.map (Value.int .u32)).toArray
theorem u32s_size (xs : List Int) : (u32s xs).size = xs.length := by simp [u32s]
/-- Block g is an array of these words. -/
def URow (w : World) (g t : Nat) (xs : List Int) : Prop := w.heap[g]? = some (.cells (u32s xs) t (0, 0))
theorem URow.cell {w : World} {g t : Nat} {xs : List Int} (h : URow w g t xs) (j : Nat) (hj : j < xs.length) : w.cell? ⟨g, j, none⟩ = some (.int .u32 (xs.getD j 0)) := by
  rw [cell_of_row w g j _ _ _ h]
  simp [u32s, List.getD_eq_getElem?_getD, List.getElem?_eq_getElem hj]
theorem URow.frozen {w : World} {g t : Nat} {xs : List Int} (h : URow w g t xs) (j : Nat) : w.frozen? ⟨g, j, none⟩ = false := by
  unfold URow at h
  simp [World.frozen?, h]
theorem URow.alloc (w : World) (t : Nat) (xs : List Int) : URow (w.alloc (.cells (u32s xs) t)) w.heap.size t xs := _root_.Go.heap_alloc_new w _
theorem URow.lt {w : World} {g t : Nat} {xs : List Int} (h : URow w g t xs) : g < w.heap.size := by
  unfold URow at h
  exact (Array.getElem?_eq_some_iff.1 h).1
theorem URow.below {w w1 : World} {g t B : Nat} {xs : List Int} (h : URow w g t xs) (hb : Below B w w1) (hg : g < B) : URow w1 g t xs := (hb.block g hg).trans h
theorem URow.drewN {w : World} {g t : Nat} {xs : List Int} (h : URow w g t xs) (m : Nat) : URow (w.drewN m) g t xs := h
theorem URow.drew {w : World} {g t : Nat} {xs : List Int} (h : URow w g t xs) : URow w.drew g t xs := h
theorem URow.set {w : World} {g t : Nat} {xs : List Int} (h : URow w g t xs) (i : Nat) (v : Int) : URow (w.setCell ⟨g, i, none⟩ (.int .u32 v)) g t (xs.set i v) := by
  have hl := h.lt
  unfold URow at h ⊢
  simp only [World.setCell]
  rw [Array.getElem?_modify, if_pos rfl, h]
  simp [u32s, List.map_set]
theorem URow.far {w : World} {g t : Nat} {xs : List Int} (h : URow w g t xs) {p : Addr} (hp : p.block ≠ g) (v : Value) : URow (w.setCell p v) g t xs := (Below.heap_setCell w p v g (fun e => hp e.symm)).trans h
theorem URow.alloc_far {w : World} {g t : Nat} {xs : List Int} (h : URow w g t xs) (o : Obj) : URow (w.alloc o) g t xs := (_root_.Go.heap_alloc_old w o h.lt).trans h
theorem URow.load {P : Program} {w : World} {g t : Nat} {xs : List Int} (h : URow w g t xs) (ty : TypeId) (d : TypeDesc) (hu : P.underlying ty = some d)
    (hd : (match d with | .struct _ | .array _ _ => true | _ => false) = true) (n : Nat) (hi : (P.info? ty).map (·.size) = some n) (hn : xs.length = n) :
    (loadVar ty ⟨g, 0, none⟩).run P w = .ok (.agg (u32s xs)) w := run_loadVar_row w g t ty _ (0, 0) d h hu hd (by rw [hi, u32s_size, hn])

/-! Operations on whole arrays, each as one step. -/
section
variable {P : Program} {ops : Array Oper} {rest : List Oper} {o : Oper} {a : Act} {Q : Exit → Act → World → Prop}
theorem run_alloc {W : World} (t : TypeId) (ho : o.op = .alloc t) (cs : Array Value) (hz : (P.info? t).map (·.zero) = some (some (.agg cs))) :
    (execOp a.eval o).run P W = .ok (.value (.pointer (some ⟨W.heap.size, 0, none⟩))) (W.alloc (.cells cs t (0, 0))) := by
  cases hq : P.info? t with
  | none => simp [hq] at hz
  | some i =>
    have hi : i.zero = some (.agg cs) := by simpa [hq] using hz
    unfold execOp
    simp [ho, Instr.alloc, zeroValue, typeInfo, hq, hi, Value.cells, newVar, newRow]
/-- A new array of words. -/
theorem step_alloc {W : World} (N : Tmp) (hgd : o.guard = none) (hd : o.dst = some N) (t : TypeId) (ho : o.op = .alloc t) (xs : List Int) (hz : (P.info? t).map (·.zero) = some (some (.agg (u32s xs))))
    (h : ∀ g, Aside0 (g = W.heap.size) → ∀ w1, Aside0 (URow w1 g t xs) → Aside0 (Below W.heap.size W w1) → Aside0 (w1.heap.size = W.heap.size + 1) → wpList P ops Q rest (a.put (some N) (.pointer (some ⟨g, 0, none⟩))) w1) : wpList P ops Q (o :: rest) a W := by
  refine Kd.event_run hgd (run_alloc t ho _ hz) ?_
  rw [hd]
  exact h _ ⟨rfl⟩ _ ⟨URow.alloc W t xs⟩ ⟨(Below.refl _ _).alloc (Nat.le_refl _) _⟩ ⟨by simp⟩
theorem run_box {W : World} (t : TypeId) (x : Operand) (ho : o.op = .box t x) (cs : Array Value) (hx : a.eval x = .agg cs) :
    (execOp a.eval o).run P W = .ok (.value (.pointer (some ⟨W.heap.size, 0, none⟩))) (W.alloc (.cells cs t (0, 0))) := by
  unfold execOp
  simp [ho, hx, Instr.box, Value.cells, newVar, newRow]
/-- An array that was handed in, laid in a block of its own. -/
theorem step_box {W : World} (N : Tmp) (hgd : o.guard = none) (hd : o.dst = some N) (t : TypeId) (x : Operand) (ho : o.op = .box t x) (xs : List Int) (hx : a.eval x = .agg (u32s xs))
    (h : ∀ g, Aside0 (g = W.heap.size) → ∀ w1, Aside0 (URow w1 g t xs) → Aside0 (Below W.heap.size W w1) → Aside0 (w1.heap.size = W.heap.size + 1) → wpList P ops Q rest (a.put (some N) (.pointer (some ⟨g, 0, none⟩))) w1) : wpList P ops Q (o :: rest) a W := by
  refine Kd.event_run hgd (run_box t x ho _ hx) ?_
  rw [hd]
  exact h _ ⟨rfl⟩ _ ⟨URow.alloc W t xs⟩ ⟨(Below.refl _ _).alloc (Nat.le_refl _) _⟩ ⟨by simp⟩
theorem run_build {W : World} (t e : TypeId) (n : Nat) (parts : Array (Nat × Operand)) (ho : o.op = .build t parts) (zs cs : Array Value) (hz : (P.info? t).map (·.zero) = some (some (.agg zs)))
    (hu : P.underlying t = some (.array n e)) (he : (P.info? e).map (·.size) = some 1) (hf : Instr.fill (fun i => some (i, 1)) zs (List.map (fun p => (p.1, a.eval p.2)) parts.toList) = some cs) :
    (execOp a.eval o).run P W = .ok (.value (.agg cs)) W := by
  cases hq : P.info? t with
  | none => simp [hq] at hz
  | some i =>
    have hi : i.zero = some (.agg zs) := by simpa [hq] using hz
    cases hq2 : P.info? e with
    | none => simp [hq2] at he
    | some i2 =>
      have hi2 : i2.size = 1 := by simpa [hq2] using he
      unfold execOp
      simp [ho, Instr.build, sizeOf, typeInfo, zeroValue, hq, hq2, hi, hi2, Sem.run_bind, run_underlying hu, hf, Value.cells]
/-- An array's value built of its elements. -/
theorem step_build {W : World} (N : Tmp) (hgd : o.guard = none) (hd : o.dst = some N) (t e : TypeId) (n : Nat) (parts : Array (Nat × Operand)) (ho : o.op = .build t parts) (zs : Array Value) (xs : List Int)
    (hz : (P.info? t).map (·.zero) = some (some (.agg zs))) (hu : P.underlying t = some (.array n e)) (he : (P.info? e).map (·.size) = some 1)
    (hf : Instr.fill (fun i => some (i, 1)) zs (List.map (fun p => (p.1, a.eval p.2)) parts.toList) = some (u32s xs))
    (h : wpList P ops Q rest (a.put (some N) (.agg (u32s xs))) W) : wpList P ops Q (o :: rest) a W := by
  refine Kd.event_run hgd (run_build t e n parts ho zs _ hz hu he hf) ?_
  rw [hd]
  exact h
theorem u32s_one (xs : List Int) : (u32s xs).all (·.oneCell') = true := by
  rw [Array.all_eq_true_iff_forall_mem]
  intro v hv
  simp only [u32s, List.mem_toArray, List.mem_map] at hv
  obtain ⟨c, _, rfl⟩ := hv
  rfl
/-- A whole array stored. -/
theorem step_store {W : World} (hgd : o.guard = none) (hd : o.dst = none) (t : TypeId) (x y : Operand) (ho : o.op = .store t x y) (g : Nat) (old xs : List Int) (hx : a.eval x = .pointer (some ⟨g, 0, none⟩))
    (hy : a.eval y = .agg (u32s xs)) (hr : URow W g t old) (hl : old.length = xs.length) (hi : (P.info? t).map (·.size) = some xs.length)
    (h : ∀ w1, Aside0 (URow w1 g t xs) → Aside0 (Below g W w1) → Aside0 (∀ k, k ≠ g → w1.heap[k]? = W.heap[k]?) → Aside0 (w1.heap.size = W.heap.size) → wpList P ops Q rest (a.put none undef) w1) : wpList P ops Q (o :: rest) a W := by
  have hs := setCells_same g (u32s xs).toList 0 W
  have ht : W.there g 0 (u32s xs).size := fun j hj => by
    rw [u32s_size] at hj
    rw [Nat.zero_add, hr.cell j (by omega), hr.frozen j]
    exact ⟨rfl, rfl⟩
  refine wpList_store_mid hgd t x y ho g 0 (u32s xs) hx hy ht (by rw [hi, u32s_size]) (u32s_one xs) ?_
  rw [hd]
  obtain ⟨cur', h3, h4, h5⟩ := setCells_row (u32s xs).toList 0 W _ hr (by rw [Nat.zero_add, Array.length_toList, u32s_size, u32s_size]; omega)
  refine h _ ⟨?_⟩ ⟨⟨hs.1, hs.2.1, hs.2.2.1, by rw [hs.2.2.2]; exact Nat.le_refl _, fun k hk => setCells_far _ 0 k (by omega)⟩⟩ ⟨fun k hk => setCells_far _ 0 k hk⟩ ⟨hs.2.2.2⟩
  unfold URow
  rw [h3]
  congr 2
  apply Array.toList_inj.mp
  rw [h5]
  have : (u32s old).toList.drop (0 + (u32s xs).toList.length) = [] := by
    rw [List.drop_eq_nil_of_le]
    rw [Array.length_toList, Array.length_toList, u32s_size, u32s_size]; omega
  rw [this]
  simp
/-- A whole array read. -/
theorem step_load {W : World} (N : Tmp) (hgd : o.guard = none) (hd : o.dst = some N) (t : TypeId) (x : Operand) (ho : o.op = .load t x) (g : Nat) (xs : List Int) (hx : a.eval x = .pointer (some ⟨g, 0, none⟩))
    (hr : URow W g t xs) (d : TypeDesc) (hu : P.underlying t = some d) (hdd : (match d with | .struct _ | .array _ _ => true | _ => false) = true) (hi : (P.info? t).map (·.size) = some xs.length)
    (h : wpList P ops Q rest (a.put (some N) (.agg (u32s xs))) W) : wpList P ops Q (o :: rest) a W := by
  refine wpList_load_row hgd t x ho g hx t (u32s xs) (0, 0) d hr hu hdd (by rw [hi, u32s_size]) ?_
  rw [hd]
  exact h
/-- An element of an array's value. -/
theorem step_index {W : World} (N : Tmp) (hgd : o.guard = none) (hd : o.dst = some N) (t e : TypeId) (n : Nat) (x y : Operand) (ho : o.op = .index t x y) (xs : List Int) (i : Nat) (hx : a.eval x = .agg (u32s xs)) (hy : a.eval y = .int .i64 (i : Int))
    (hu : P.underlying t = some (.array n e)) (hue : P.underlying e = some (.int .u32)) (he : (P.info? e).map (·.size) = some 1) (hi : i < n) (hl : xs.length = n)
    (h : wpList P ops Q rest (a.put (some N) (.int .u32 (xs.getD i 0))) W) : wpList P ops Q (o :: rest) a W := by
  refine Kd.event_run hgd (v := .int .u32 (xs.getD i 0)) (w1 := W) ?_ ?_
  · cases hq2 : P.info? e with
    | none => simp [hq2] at he
    | some i2 =>
      have hi2 : i2.size = 1 := by simpa [hq2] using he
      have hin : (i : Int) < (n : Int) := by omega
      have hlt : i < xs.length := by omega
      unfold execOp
      simp [ho, hx, hy, Instr.index, asIntOf, run_underlying hu, hin, sizeOf, typeInfo, hq2, hi2, part, isAgg, run_underlying hue, u32s, List.getElem?_eq_getElem hlt, hi]
  · rw [hd]; exact h
end
end Go.Proofs.Ytkejacgedipoeaa.Pl
