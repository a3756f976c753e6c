/- Short names for the printed functions. -/
import Derived.Test.YtnhhbmekjoanbaaDoorZFBWApart
import Derived.Test.YtnhhbmekjoanbaaDoorZFBWEqStruct
import Derived.Test.YtnhhbmekjoanbaaDoorZFBWFoot
import Derived.Test.YtnhhbmekjoanbaaDoorZFBWGuard
import Derived.Test.YtnhhbmekjoanbaaDoorZFBWInv
import Derived.Test.YtnhhbmekjoanbaaDoorZFBWKept
import Derived.Test.YtnhhbmekjoanbaaDoorZFBWLast
import Derived.Test.YtnhhbmekjoanbaaDoorZFBWMore
import Derived.Test.YtnhhbmekjoanbaaDoorZFBWN
import Derived.Test.YtnhhbmekjoanbaaDoorZFBWRepsOne
import Derived.Test.YtnhhbmekjoanbaaDoorZFBWShare
import Derived.Test.YtnhhbmekjoanbaaDoorZFBWWords
namespace Go.Proofs.YtnhhbmekjoanbaaDoor.P
open Go.RowKit Go.Proofs.YtnhhbmekjoanbaaDoorW.PrintWords Go.Proofs.YtnhhbmekjoanbaaDoorW.PrintLast Go.Proofs.YtnhhbmekjoanbaaDoorW.PrintMore
section
variable {α : Type} {d : Kd α} {e base g g' B : Nat} {ok : Nat → Prop} {v a b c f z : Value} {xs : List α} {w W W' w1 : World} {o : Obj} {t n : Nat} {A : Option Addr} {l : List Value} {fl : Nat × Nat}
theorem qH (h : Below B w W' := by repeat (with_reducible first | exact Aside0.out (by assumption) | apply below_alloc | apply pw_below_drewN | apply below_drew1 | refine below_set ?_ (Aside0.out (by assumption)))) : Below B w W' := h
theorem wH (hb : Below W'.heap.size W' w1) (h : Below w.heap.size w W' := by repeat (with_reducible first | exact Aside0.out (by assumption) | apply below_alloc | apply pw_below_drewN | apply below_drew1 | refine below_set ?_ (Aside0.out (by assumption)))) : Aside0 (Below w.heap.size w w1) := ⟨below_step h hb⟩
theorem qG (hg : g = W'.heap.size) (h : Below w.heap.size w W' := by repeat (with_reducible first | exact Aside0.out (by assumption) | apply below_alloc | apply pw_below_drewN | apply below_drew1 | refine below_set ?_ (Aside0.out (by assumption)))) : w.heap.size ≤ g := by rw [hg]; exact below_size h
theorem qR (h : Kd.R d e W base ok v xs) (q : Below W.heap.size W W' := by repeat (first | (with_reducible first | exact Below.refl _ _ | apply below_alloc | apply pw_below_drewN | apply below_drew1) | exact Below.refl _ _)) : Kd.R d e W' base ok v xs := Kd.R_below h q
theorem qC (h : Aside0 (Kd.C d w A n xs)) (q : Below w.heap.size w W' := by repeat (with_reducible first | exact Aside0.out (by assumption) | apply below_alloc | apply pw_below_drewN | apply below_drew1 | refine below_set ?_ (Aside0.out (by assumption)))) : Kd.C d W' A n xs := Kd.C_below h.out q
theorem qK (h : Kd.C d W A n xs) (q : Below W.heap.size W W' := by repeat (first | (with_reducible first | exact Below.refl _ _ | apply below_alloc | apply pw_below_drewN | apply below_drew1) | exact Below.refl _ _)) : Kd.C d W' A n xs := Kd.C_below h q
theorem eX {β : Type} {x y : β} (h : x = y := by first | rfl | (simp [errW_none, errW_some] <;> rfl) | (simp [*, errW_none, errW_some] <;> rfl)) : x = y := h
theorem bE {P : Program} {ops : Array Oper} {rest : List Oper} {o : Oper} {a : Act} {Q : Exit → Act → World → Prop} {N : Tmp} {cs : Array Value} {t : TypeId} (h : ∀ g, g = W.heap.size → ∀ w1, w1.heap[g]? = some (.cells cs t (0, 0)) → Below W.heap.size W w1 → wpList P ops Q rest (a.put o.dst (.pointer (some ⟨g, 0, none⟩))) w1) (_hd : o.dst = some N := by rfl) (hgd : o.guard = none := by rfl) (hrun : (execOp a.eval o).run P W = .ok (.value (.pointer (some ⟨W.heap.size, 0, none⟩))) (W.alloc (.cells cs t (0, 0))) := by first | (go_simp; done) | (go_simp; rfl)) : wpList P ops Q (o :: rest) a W := box_event hgd _hd hrun h
theorem gL {P : Program} {ops : Array Oper} {Q : Exit → Act → World → Prop} {rest : List Oper} {oi : Oper} {a : Act} {w : World} (N : Option Tmp) {f : FuncId} {fn : Func} {as : Array Operand} {ts : Array TypeId} (hf : P.funcs[f]? = some fn) (args : Array Value) (h : Calls P f args w fun e w' => ∃ v, e = .returned v ∧ wpList P ops Q rest (a.put N v) w') (hd : oi.dst = N := by rfl) (hg : oi.guard = none := by rfl) (hname : (fn.name == "runtime.NumGoroutine") = false := by kernel_rfl) (hb : fn.body.isSome = true := by rfl) (hop : oi.op = .call { callee := .value (.func f), args := as, argTypes := ts } := by rfl) (hargs : as.map a.eval = args := by (try simp only [List.map_toArray, List.map_cons, List.map_nil]); first | done | rfl) : wpList P ops Q (oi :: rest) a w := goesL_ N hd hg hf hname hb args hop hargs h
theorem eY {β : Type} {x y : β} (h : x = y := by first | rfl | (simp; done) | (simp [*]; done)) : x = y := h
theorem aS {p : Prop} (h : p := by first | (with_reducible assumption) | assumption) : p := h
theorem nF_ : ¬ (false = true) := by decide
theorem wP2 {x0 x1 a0 a1 : Value} {W0 : World} (h : Aside0 (W.heap[g]? = some (.cells #[x0, x1] t (0, 0)))) (hb : Below W'.heap.size W' w1) (q2 : Below ((W0.setCell ⟨g, 0, none⟩ a0).setCell ⟨g, 1, none⟩ a1).heap.size ((W0.setCell ⟨g, 0, none⟩ a0).setCell ⟨g, 1, none⟩ a1) W' := by repeat (first | (with_reducible first | exact Below.refl _ _ | apply below_alloc | apply pw_below_drewN | apply below_drew1) | exact Below.refl _ _)) (q0 : Below W.heap.size W W0 := by repeat (first | (with_reducible first | exact Below.refl _ _ | apply below_alloc | apply pw_below_drewN | apply below_drew1) | exact Below.refl _ _)) : Aside0 (w1.heap[g]? = some (.cells #[a0, a1] t (0, 0))) := ⟨blk_below (blk_below (blk_put (cs := #[a0, x1]) (blk_put (cs := #[x0, x1]) (blk_below h.out q0) 0 a0 rfl) 1 a1 rfl) q2) hb⟩
theorem e2_ {a0 a1 : Value} (h : Aside0 (W.heap[g]? = some (.cells #[a0, a1] t (0, 0)))) : W.cell? ⟨g, 0, none⟩ = some a0 ∧ W.cell? ⟨g, 1, none⟩ = some a1 ∧ W.frozen? ⟨g, 0, none⟩ = false ∧ W.frozen? ⟨g, 1, none⟩ = false := ⟨(blk_cell h.out 0).trans rfl, (blk_cell h.out 1).trans rfl, blk_frozen h.out 0, blk_frozen h.out 1⟩
end
end Go.Proofs.YtnhhbmekjoanbaaDoor.P
