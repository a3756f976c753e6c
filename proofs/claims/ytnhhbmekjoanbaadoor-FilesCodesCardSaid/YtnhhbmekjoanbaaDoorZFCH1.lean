/- A range over a function whose iterator keeps a captured variable in a cell of its own: the statement, once. No program in sight. -/
import Derived.RangeFuncNested
import Derived.RangeFuncBound
import Derived.RangeFuncCalls
import Derived.RangeFuncLeaves
import Derived.RangeFuncKeeps
import Derived.OwnWalkIn
import Derived.TacticsInMore
import Derived.LoopNIn
import Derived.LoopIn
import Derived.WalkKit
import Derived.Below
import Derived.Laws.Rows
import Derived.Deep.MidRow
import Derived.Test.YtnhhbmekjoanbaaDoorZFCWWords
set_option linter.unusedVariables false
set_option linter.unusedSimpArgs false
namespace Go.Proofs.YtnhhbmekjoanbaaDoor.Rg
open Go Go.RowKit
/-- What two things abide: new memory, and a turn of the captured cell. -/
structure Calm {α : Type} (B : Nat) (J : List α → World → Prop) : Prop where
  grow : ∀ {pre : List α} {W W' : World}, J pre W → Below W.heap.size W W' → J pre W'
  cell : ∀ {pre : List α} {W : World} (v : Value), J pre W → J pre (W.setCell ⟨B, 0, none⟩ v)
/-- The iterator over the list xs: its captured cell is block B; ok tells what it asks of the world. -/
def Iter {α : Type} (P : Program) (n : Nat) (gf : Nat) (lb : Array Value) (encs : α → Array Value) (xs : List α) (B : Nat) (keep : Nat → Prop) (ok : World → Prop) : Prop :=
  ∀ (l : Nat) (J Jx : List α → World → Prop) (W : World), ok W → Calm B J → Calm B Jx →
    (∀ (pre : List α) (x : α) (post : List α) (W1 : World), xs = pre ++ x :: post → J pre W1 → YieldAt Fence.wide n P l (encs x) W1 fun e W' =>
      (e = .returned (.bool true) ∧ J (pre ++ [x]) W' ∧ ∀ k, keep k → W'.heap[k]? = W1.heap[k]?) ∨ (e = .returned (.bool false) ∧ Jx (pre ++ [x]) W')) →
    J [] W →
    CallsIn Fence.wide (n + 1) P gf (#[.func (.yield l) #[] #[]] ++ lb) W fun e W' => (∃ v, e = .returned v) ∧ (J xs W' ∨ ∃ pre x post, xs = pre ++ x :: post ∧ Jx (pre ++ [x]) W')
/-- How a round may end: it goes on, or it returns. -/
def endsP {α : Type} (keep : Nat → Prop) (I Ix : List α → World → Prop) (ys : List α) (W : World) : Exit → Act → World → Prop
  | .normal, _, W' => KeepsOthers W W' ∧ (∀ k, keep k → W'.heap[k]? = W.heap[k]?) ∧ I ys W'
  | .ret, _, W' => KeepsOthers W W' ∧ Ix ys W'
  | _, _, _ => False
/-- What the caller says of the world abides the loop's own book-keeping. -/
def Books {α : Type} (K : Nat) (J : List α → World → Prop) : Prop := ∀ {pre : List α} {W : World} (k : Nat) (o : Obj), K ≤ k → J pre W → (∃ o', W.heap[k]? = some o' ∧ o'.isCells = false) → J pre (W.putObj k o)
theorem heap_lt {W : World} {k : Nat} {o : Obj} (h : W.heap[k]? = some o) : k < W.heap.size := (Array.getElem?_eq_some_iff.1 h).1
theorem held_grow {W W' : World} {k : Nat} {o : Obj} (h : W.heap[k]? = some o) (hb : Below W.heap.size W W') : W'.heap[k]? = some o := (hb.block k (heap_lt h)).trans h
theorem held_cell {W : World} {k B : Nat} {o : Obj} (h : W.heap[k]? = some o) (hk : k ≠ B) (v : Value) : (W.setCell ⟨B, 0, none⟩ v).heap[k]? = some o := (Below.heap_setCell W ⟨B, 0, none⟩ v k hk).trans h
theorem put_below {w W : World} {k : Nat} (o : Obj) (h : Below w.heap.size w W) (hk : w.heap.size ≤ k) : Below w.heap.size w (W.putObj k o) :=
  h.trans ((Below.refl w.heap.size W).grown (grownBy_putObj' W k o) h.size (fun j e => by cases e; exact hk))
/-- The statement. -/
theorem wp_range {α : Type} {P : Program} {n : Nat} {g : Operand} {ps : Array Tmp} {assign body : Code} {Q : Exit → Act → World → Prop} {a : Act} {w : World} {gf : Nat} {lb : Array Value}
    (hg : a.eval g = .func (.func gf) #[] lb) (eg : ∀ args W, (callFunc gf args).run P W = .ok (.enter gf args) W) {encs : α → Array Value} {xs : List α} {B : Nat} {keep : Nat → Prop} {ok : World → Prop}
    (hit : Iter P n gf lb encs xs B keep ok) (hB : B < w.heap.size) (hkp : ∀ k, keep k → k < w.heap.size) (hps : ∀ x, (encs x).size = ps.size)
    (I Ix : List α → World → Prop) (cI : Calm B I) (cX : Calm B Ix) (bI : Books w.heap.size I) (bX : Books w.heap.size Ix) (h0 : I [] w) (a₁ : α → Act)
    (hokw : ∀ W, Below w.heap.size w W → ok W)
    (hassign : ∀ (l : Nat) (x : α) (W : World) (K : Act → World → Prop), K (a₁ x) W →
      assign.wpIn (Fence.wide.inRound l) n P (Exit.then K (fun _ _ _ => False)) { tmps := (ps.zip (encs x)).foldl (fun t (p, v) => t.setIfInBounds p v) a.tmps, defers := [] } W)
    (hbody : ∀ (l : Nat) (pre : List α) (x : α) (post : List α) (W : World), xs = pre ++ x :: post → I pre W → body.wpIn (Fence.wide.inRound l) n P (endsP keep I Ix (pre ++ [x]) W) (a₁ x) W)
    (hdone : ∀ (D : Nat) (W : World), I xs W → W.heap[D]? = some (.deferred (some [])) → w.heap.size ≤ D → Q .normal { a with defers := { target := .collected D, args := #[] } :: a.defers } W)
    (hstop : ∀ (D : Nat) (pre : List α) (x : α) (post : List α) (W : World), xs = pre ++ x :: post → Ix (pre ++ [x]) W → W.heap[D]? = some (.deferred (some [])) → w.heap.size ≤ D → Code.ret.wpIn Fence.wide (n + 2) P Q { a with defers := { target := .collected D, args := #[] } :: a.defers } W) :
    (Code.rangeFunc g ps assign body).wpIn Fence.wide (n + 2) P Q a w := by
  refine wpIn_rangeFunc ?_
  intro fn hfn
  let mk : LoopState → Option Code → Loop := fun st pe => { state := st, pending := pe, fn, tmps := a.tmps, params := ps, assign, body, defers := w.heap.size }
  have enter := run_enterLoop_outer (P := P) (w := w) fn a.tmps ps assign body
  generalize hW1 : (w.alloc (.deferred (some []))).alloc (.loop (mk .ready none)) = W1
  rw [show (w.alloc (.deferred (some []))).alloc (.loop { state := .ready, pending := none, fn, tmps := a.tmps, params := ps, assign, body, defers := w.heap.size }) = W1 from hW1] at enter
  have b1 : Below w.heap.size w W1 := by
    rw [← hW1]; exact ((Below.refl _ w).alloc (Nat.le_refl _) _).alloc (by simp) _
  have l1 : W1.heap[w.heap.size + 1]? = some (.loop (mk .ready none)) := by
    have h := World.alloc_heap_new (w.alloc (.deferred (some []))) (.loop (mk .ready none))
    rw [World.size_alloc, hW1] at h
    exact h
  have d1 : W1.heap[w.heap.size]? = some (.deferred (some [])) := by
    rw [← hW1]; exact (Below.heap_alloc _ _ _ (by simp)).trans (World.alloc_heap_new w _)
  clear hW1
  refine ⟨w.heap.size + 1, [{ target := .collected w.heap.size, args := #[] }], W1, { target := .fn (.func gf) lb, args := #[.func (.yield (w.heap.size + 1)) #[] #[]] }, W1, gf, #[.func (.yield (w.heap.size + 1)) #[] #[]] ++ lb, W1, enter, ?_, fun _ _ => trivial, ?_, fun _ => by omega, ?_⟩
  · simp only [resolve, hg]
    simp [go_sem]
  · simp [invoke, go_sem, eg]
  have calm : ∀ (r : Loop) (J : List α → World → Prop), Calm B J → Calm B (fun pre W => J pre W ∧ W.heap[w.heap.size + 1]? = some (.loop r) ∧ W.heap[w.heap.size]? = some (.deferred (some []))) := fun r J cJ =>
    ⟨fun h hb => ⟨cJ.grow h.1 hb, held_grow h.2.1 hb, held_grow h.2.2 hb⟩, fun v h => ⟨cJ.cell v h.1, held_cell h.2.1 (by omega) v, held_cell h.2.2 (by omega) v⟩⟩
  refine (hit (w.heap.size + 1) (fun pre W => I pre W ∧ W.heap[w.heap.size + 1]? = some (.loop (mk .ready none)) ∧ W.heap[w.heap.size]? = some (.deferred (some [])))
    (fun pre W => Ix pre W ∧ W.heap[w.heap.size + 1]? = some (.loop (mk .done (some .ret))) ∧ W.heap[w.heap.size]? = some (.deferred (some []))) W1 (hokw W1 b1) (calm _ _ cI) (calm _ _ cX) ?round ⟨cI.grow h0 b1, l1, d1⟩).mono ?after
  case round =>
    rintro pre x post W hx ⟨hi, hl, hd⟩
    have hy := run_yield (P := P) (args := encs x) hl (hps x)
    refine ⟨fn, _, assign, body, hy, roundIn_of_wpIn hfn (hassign _ x W _ ⟨_, run_beginRound hl rfl, ?_⟩)⟩
    have lt := heap_lt hl
    generalize hW2 : W.putObj (w.heap.size + 1) (.loop { mk .ready none with state := .busy }) = W2
    have hl2 : W2.heap[w.heap.size + 1]? = some (.loop { mk .ready none with state := .busy }) := by rw [← hW2]; exact World.putObj_heap_same lt
    have hd2 : W2.heap[w.heap.size]? = some (.deferred (some [])) := by rw [← hW2]; exact (World.putObj_heap_other (by omega)).trans hd
    have hB2 : ∀ k, keep k → W2.heap[k]? = W.heap[k]? := fun k hk => by rw [← hW2]; exact World.putObj_heap_other (by have := hkp k hk; omega)
    have hi2 : I pre W2 := by rw [← hW2]; exact bI _ _ (by omega) hi ⟨_, hl, rfl⟩
    clear hW2
    refine wpIn_mono (hbody _ pre x post W2 hx hi2) ?_
    rintro e a3 W3 hp
    cases e with
    | normal =>
      obtain ⟨hk3, hb3, hi3⟩ := hp
      have hl3 := hk3.same _ _ hl2 rfl
      have hd3 := hk3.same _ _ hd2 rfl
      refine ⟨_, _, run_endRound (P := P) none hl3, .inl ⟨rfl, ⟨bI _ _ (by omega) hi3 ⟨_, hl3, rfl⟩, World.putObj_heap_same (heap_lt hl3), (World.putObj_heap_other (by omega)).trans hd3⟩, fun k hk => (World.putObj_heap_other (by have := hkp k hk; omega)).trans ((hb3 k hk).trans (hB2 k hk))⟩⟩
    | ret =>
      obtain ⟨hk3, hi3⟩ := hp
      have hl3 := hk3.same _ _ hl2 rfl
      have hd3 := hk3.same _ _ hd2 rfl
      exact ⟨_, _, run_endRound (P := P) (some .ret) hl3, .inr ⟨rfl, bX _ _ (by omega) hi3 ⟨_, hl3, rfl⟩, World.putObj_heap_same (heap_lt hl3), (World.putObj_heap_other (by omega)).trans hd3⟩⟩
    | exit id => exact hp.elim
    | goto t => exact hp.elim
    | panic ch => exact hp.elim
    | outgrown => exact hp.elim
  case after =>
    rintro e W ⟨⟨v, rfl⟩, ⟨hi, hl, hd⟩ | ⟨pre, x, post, hx, hi, hl, hd⟩⟩
    · refine ⟨none, _, run_endLoop hl (by simp [mk]), hdone w.heap.size _ (bI _ _ (by omega) hi ⟨_, hl, rfl⟩) ((World.putObj_heap_other (by omega)).trans hd) (Nat.le_refl _)⟩
    · refine ⟨some .ret, _, run_endLoop hl (by simp [mk]), hstop w.heap.size pre x post _ hx (bX _ _ (by omega) hi ⟨_, hl, rfl⟩) ((World.putObj_heap_other (by omega)).trans hd) (Nat.le_refl _)⟩
end Go.Proofs.YtnhhbmekjoanbaaDoor.Rg
set_option linter.unusedVariables false
set_option linter.unusedSimpArgs false
set_option linter.unusedSimpArgs false
namespace Go.Proofs.YtnhhbmekjoanbaaDoor.P
open Go Go.RowKit Go.Proofs.YtnhhbmekjoanbaaDoorW.PrintWords
section
variable {P : Program} {ops : Array Oper} {rest : List Oper} {o : Oper} {a : Act} {Q : Exit → Act → World → Prop}
theorem box_lay {W : World} (N : Tmp) (hd : o.dst = some N) (hgd : o.guard = none) (t : TypeId) (ho : o.op = .alloc t) (cs : Array Value) (hz : (P.info? t).map (·.zero) = some (some (.agg cs)))
    (h : ∀ g, Aside0 (g = W.heap.size) → ∀ w1, Aside0 (w1.heap[g]? = some (.cells cs t (0, 0))) → Aside0 (Below W.heap.size W w1) → wpList P ops Q rest (a.put (some N) (.pointer (some ⟨g, 0, none⟩))) w1) : wpList P ops Q (o :: rest) a W := by
  have hrun : (execOp a.eval o).run P W = .ok (.value (.pointer (some ⟨W.heap.size, 0, none⟩))) (W.alloc (.cells cs t (0, 0))) := by
    cases hq : P.info? t with
    | none => simp [hq] at hz
    | some i =>
      have hi : i.zero = some (.agg cs) := by simpa [hq] using hz
      unfold execOp
      simp [ho, Instr.alloc, zeroValue, typeInfo, hq, hi, Value.cells, newVar, newRow]
  refine Kd.event_run hgd hrun ?_
  rw [hd]
  exact h _ ⟨rfl⟩ _ ⟨_root_.Go.heap_alloc_new W _⟩ ⟨(Below.refl _ _).alloc (Nat.le_refl _) _⟩
/-- A whole struct stored into a block of one's own. -/
theorem box_put {W : World} (hd : o.dst = none) (hgd : o.guard = none) (t : TypeId) (x y : Operand) (ho : o.op = .store t x y) (g : Nat) (old new : Array Value) (hx : a.eval x = .pointer (some ⟨g, 0, none⟩))
    (hy : a.eval y = .agg new) (hr : W.heap[g]? = some (.cells old t (0, 0))) (h1' : new.toList.all (·.oneCell') = true) (hl : old.size = new.size) (hi : (P.info? t).map (·.size) = some new.size)
    (h : ∀ w1, Aside0 (w1.heap[g]? = some (.cells new t (0, 0))) → Aside0 (Below g W w1) → Aside0 (∀ k, k ≠ g → w1.heap[k]? = W.heap[k]?) → Aside0 (w1.heap.size = W.heap.size) → wpList P ops Q rest (a.put none undef) w1) : wpList P ops Q (o :: rest) a W := by
  have h1 : new.all (·.oneCell') = true := by rw [← Array.all_toList]; exact h1'
  have hs := setCells_same g new.toList 0 W
  have ht : W.there g 0 new.size := fun j hj => by
    rw [Nat.zero_add]
    refine ⟨?_, blk_frozen hr j⟩
    rw [blk_cell hr j, Array.getElem?_eq_getElem (by omega)]
    rfl
  refine wpList_store_mid hgd t x y ho g 0 new hx hy ht hi h1 ?_
  rw [hd]
  obtain ⟨cur', h3, h4, h5⟩ := setCells_row new.toList 0 W _ hr (by rw [Nat.zero_add, Array.length_toList]; omega)
  refine h _ ⟨?_⟩ ⟨⟨hs.1, hs.2.1, hs.2.2.1, by rw [hs.2.2.2]; exact Nat.le_refl _, fun k hk => setCells_far _ 0 k (by omega)⟩⟩ ⟨fun k hk => setCells_far _ 0 k hk⟩ ⟨hs.2.2.2⟩
  rw [h3]
  congr 2
  apply Array.toList_inj.mp
  rw [h5]
  have : old.toList.drop (0 + new.toList.length) = [] := by
    rw [List.drop_eq_nil_of_le]
    rw [Array.length_toList, Array.length_toList]; omega
  rw [this]
  simp
end
end Go.Proofs.YtnhhbmekjoanbaaDoor.P
