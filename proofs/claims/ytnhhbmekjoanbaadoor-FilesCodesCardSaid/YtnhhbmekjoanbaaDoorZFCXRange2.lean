/- A range over a function whose loop variable is made anew in memory in each round: the statement, once. No program in sight. -/
import Derived.Test.YtnhhbmekjoanbaaDoorZFCH1
set_option linter.unusedVariables false
set_option linter.unusedSimpArgs false
namespace Go.Proofs.YtnhhbmekjoanbaaDoor.Rg
open Go Go.RowKit
/-- The statement. -/
theorem wp_range2 {α : Type} {P : Program} {n : Nat} {g : Operand} {ps : Array Tmp} {assign body : Code} {Q : Exit → Act → World → Prop} {a : Act} {w : World} {gf : Nat} {lb : Array Value}
    (hg : a.eval g = .func (.func gf) #[] lb) (eg : ∀ args W, (callFunc gf args).run P W = .ok (.enter gf args) W) {encs : α → Array Value} {xs : List α} {B : Nat} {keep : Nat → Prop} {ok : World → Prop}
    (hit : Iter P n gf lb encs xs B keep ok) (hB : B < w.heap.size) (hkp : ∀ k, keep k → k < w.heap.size) (hps : ∀ x, (encs x).size = ps.size)
    (I Ix : List α → World → Prop) (cI : Calm B I) (cX : Calm B Ix) (bI : Books w.heap.size I) (bX : Books w.heap.size Ix) (h0 : I [] w) (X : α → Act → World → Prop)
    (bookX : ∀ {x : α} {a : Act} {W : World} (k : Nat) (o : Obj), k < w.heap.size + 2 → X x a W → X x a (W.putObj k o))
    (hokw : ∀ W, Below w.heap.size w W → ok W)
    (hassign : ∀ (l : Nat) (x : α) (W : World) (K : Act → World → Prop), w.heap.size + 2 ≤ W.heap.size → (∀ (a : Act) (W' : World), Below W.heap.size W W' → X x a W' → K a W') →
      assign.wpIn (Fence.wide.inRound l) n P (Exit.then K (fun _ _ _ => False)) { tmps := (ps.zip (encs x)).foldl (fun t (p, v) => t.setIfInBounds p v) a.tmps, defers := [] } W)
    (hbody : ∀ (l : Nat) (pre : List α) (x : α) (post : List α) (a : Act) (W : World), xs = pre ++ x :: post → I pre W → X x a W → body.wpIn (Fence.wide.inRound l) n P (endsP keep I Ix (pre ++ [x]) W) a W)
    (hdone : ∀ (D : Nat) (W : World), I xs W → W.heap[D]? = some (.deferred (some [])) → w.heap.size ≤ D → Q .normal { a with defers := { target := .collected D, args := #[] } :: a.defers } W)
    (hstop : ∀ (D : Nat) (pre : List α) (x : α) (post : List α) (W : World), xs = pre ++ x :: post → Ix (pre ++ [x]) W → W.heap[D]? = some (.deferred (some [])) → w.heap.size ≤ D → Code.ret.wpIn Fence.wide (n + 2) P Q { a with defers := { target := .collected D, args := #[] } :: a.defers } W) :
    (Code.rangeFunc g ps assign body).wpIn Fence.wide (n + 2) P Q a w := by
  refine wpIn_rangeFunc ?_
  intro fn hfn
  let mk : LoopState → Option Code → Loop := fun st pe => { state := st, pending := pe, fn, tmps := a.tmps, params := ps, assign, body, defers := w.heap.size }
  have enter := run_enterLoop_outer (P := P) (w := w) fn a.tmps ps assign body
  generalize hW1 : (w.alloc (.deferred (some []))).alloc (.loop (mk .ready none)) = W1
  rw [show (w.alloc (.deferred (some []))).alloc (.loop { state := .ready, pending := none, fn, tmps := a.tmps, params := ps, assign, body, defers := w.heap.size }) = W1 from hW1] at enter
  have b1 : Below w.heap.size w W1 := by
    rw [← hW1]; exact ((Below.refl _ w).alloc (Nat.le_refl _) _).alloc (by simp) _
  have l1 : W1.heap[w.heap.size + 1]? = some (.loop (mk .ready none)) := by
    have h := World.alloc_heap_new (w.alloc (.deferred (some []))) (.loop (mk .ready none))
    rw [World.size_alloc, hW1] at h
    exact h
  have d1 : W1.heap[w.heap.size]? = some (.deferred (some [])) := by
    rw [← hW1]; exact (Below.heap_alloc _ _ _ (by simp)).trans (World.alloc_heap_new w _)
  clear hW1
  refine ⟨w.heap.size + 1, [{ target := .collected w.heap.size, args := #[] }], W1, { target := .fn (.func gf) lb, args := #[.func (.yield (w.heap.size + 1)) #[] #[]] }, W1, gf, #[.func (.yield (w.heap.size + 1)) #[] #[]] ++ lb, W1, enter, ?_, fun _ _ => trivial, ?_, fun _ => by omega, ?_⟩
  · simp only [resolve, hg]
    simp [go_sem]
  · simp [invoke, go_sem, eg]
  have calm : ∀ (r : Loop) (J : List α → World → Prop), Calm B J → Calm B (fun pre W => J pre W ∧ W.heap[w.heap.size + 1]? = some (.loop r) ∧ W.heap[w.heap.size]? = some (.deferred (some []))) := fun r J cJ =>
    ⟨fun h hb => ⟨cJ.grow h.1 hb, held_grow h.2.1 hb, held_grow h.2.2 hb⟩, fun v h => ⟨cJ.cell v h.1, held_cell h.2.1 (by omega) v, held_cell h.2.2 (by omega) v⟩⟩
  refine (hit (w.heap.size + 1) (fun pre W => I pre W ∧ W.heap[w.heap.size + 1]? = some (.loop (mk .ready none)) ∧ W.heap[w.heap.size]? = some (.deferred (some [])))
    (fun pre W => Ix pre W ∧ W.heap[w.heap.size + 1]? = some (.loop (mk .done (some .ret))) ∧ W.heap[w.heap.size]? = some (.deferred (some []))) W1 (hokw W1 b1) (calm _ _ cI) (calm _ _ cX) ?round ⟨cI.grow h0 b1, l1, d1⟩).mono ?after
  case round =>
    rintro pre x post W hx ⟨hi, hl, hd⟩
    have hy := run_yield (P := P) (args := encs x) hl (hps x)
    refine ⟨fn, _, assign, body, hy, roundIn_of_wpIn hfn (hassign _ x W _ (by have := heap_lt hl; omega) ?_)⟩
    intro a1 W1' hg1 hx1
    have hl1 : W1'.heap[w.heap.size + 1]? = some (.loop (mk .ready none)) := held_grow hl hg1
    have hd1 : W1'.heap[w.heap.size]? = some (.deferred (some [])) := held_grow hd hg1
    have hi1 := cI.grow hi hg1
    have hk1 : ∀ k, keep k → W1'.heap[k]? = W.heap[k]? := fun k hk => hg1.block k (by have := hkp k hk; have := heap_lt hl; omega)
    refine ⟨_, run_beginRound hl1 rfl, ?_⟩
    have lt := heap_lt hl1
    have hx2 := bookX (w.heap.size + 1) (.loop { mk .ready none with state := .busy }) (by omega) hx1
    generalize hW2 : W1'.putObj (w.heap.size + 1) (.loop { mk .ready none with state := .busy }) = W2 at *
    have hl2 : W2.heap[w.heap.size + 1]? = some (.loop { mk .ready none with state := .busy }) := by rw [← hW2]; exact World.putObj_heap_same lt
    have hd2 : W2.heap[w.heap.size]? = some (.deferred (some [])) := by rw [← hW2]; exact (World.putObj_heap_other (by omega)).trans hd1
    have hB2 : ∀ k, keep k → W2.heap[k]? = W.heap[k]? := fun k hk => by rw [← hW2]; exact (World.putObj_heap_other (by have := hkp k hk; omega)).trans (hk1 k hk)
    have hi2 : I pre W2 := by rw [← hW2]; exact bI _ _ (by omega) hi1 ⟨_, hl1, rfl⟩
    clear hW2
    refine wpIn_mono (hbody _ pre x post a1 W2 hx hi2 hx2) ?_
    rintro e a3 W3 hp
    cases e with
    | normal =>
      obtain ⟨hk3, hb3, hi3⟩ := hp
      have hl3 := hk3.same _ _ hl2 rfl
      have hd3 := hk3.same _ _ hd2 rfl
      refine ⟨_, _, run_endRound (P := P) none hl3, .inl ⟨rfl, ⟨bI _ _ (by omega) hi3 ⟨_, hl3, rfl⟩, World.putObj_heap_same (heap_lt hl3), (World.putObj_heap_other (by omega)).trans hd3⟩, fun k hk => (World.putObj_heap_other (by have := hkp k hk; omega)).trans ((hb3 k hk).trans (hB2 k hk))⟩⟩
    | ret =>
      obtain ⟨hk3, hi3⟩ := hp
      have hl3 := hk3.same _ _ hl2 rfl
      have hd3 := hk3.same _ _ hd2 rfl
      exact ⟨_, _, run_endRound (P := P) (some .ret) hl3, .inr ⟨rfl, bX _ _ (by omega) hi3 ⟨_, hl3, rfl⟩, World.putObj_heap_same (heap_lt hl3), (World.putObj_heap_other (by omega)).trans hd3⟩⟩
    | exit id => exact hp.elim
    | goto t => exact hp.elim
    | panic ch => exact hp.elim
    | outgrown => exact hp.elim
  case after =>
    rintro e W ⟨⟨v, rfl⟩, ⟨hi, hl, hd⟩ | ⟨pre, x, post, hx, hi, hl, hd⟩⟩
    · refine ⟨none, _, run_endLoop hl (by simp [mk]), hdone w.heap.size _ (bI _ _ (by omega) hi ⟨_, hl, rfl⟩) ((World.putObj_heap_other (by omega)).trans hd) (Nat.le_refl _)⟩
    · refine ⟨some .ret, _, run_endLoop hl (by simp [mk]), hstop w.heap.size pre x post _ hx (bX _ _ (by omega) hi ⟨_, hl, rfl⟩) ((World.putObj_heap_other (by omega)).trans hd) (Nat.le_refl _)⟩
end Go.Proofs.YtnhhbmekjoanbaaDoor.Rg
