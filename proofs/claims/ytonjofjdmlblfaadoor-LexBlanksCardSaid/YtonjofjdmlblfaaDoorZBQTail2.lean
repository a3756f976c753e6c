/- A region that draws its order: a move at the front on which nothing waits till late, then loads and arithmetic that read worlds meeting S, then one operation that makes a block (S stays), then a row in one order. -/
import Derived.Test.YtonjofjdmlblfaaDoorZBQTail1
import Derived.OrdersHeld
set_option linter.unusedVariables false
set_option linter.unusedSimpArgs false
namespace Go.Proofs.YtonjofjdmlblfaaDoor.Q
open Go
section
variable {P : Program} {ops : Array Oper} {md : Region.Mode} {S : World → Prop} {Q : Exit → Act → World → Prop}
def anyH (P : Program) (md : Region.Mode) (ops : Array Oper) (Q : Exit → Act → World → Prop) (S : World → Prop) (n : Nat) (L : Array Bool → Act → World → Prop) : Nat → Array Bool → Act → World → Prop
  | 0, listed, a, w => L listed a w
  | f + 1, listed, a, w => Region.ready md ops listed ≠ [] ∧ ∀ i ∈ Region.ready md ops listed, i < n ∧ wpOp P ops Q i (fun a' w' => S w' ∧ anyH P md ops Q S n L f (listed.setIfInBounds i true) a' w') a w
theorem any_of_headH {n g : Nat} {L : Array Bool → Act → World → Prop} (hL : ∀ listed a w, L listed a w → wpAny P md ops Q g listed a w) :
    ∀ (f : Nat) (listed : Array Bool) (a : Act) (w : World), anyH P md ops Q S n L f listed a w → wpAny P md ops Q (f + g) listed a w
  | 0, listed, a, w, h => by rw [Nat.zero_add]; exact hL _ _ _ h
  | f + 1, listed, a, w, h => by
    rw [show f + 1 + g = (f + g) + 1 by omega]
    exact ⟨fun h0 => absurd h0 h.1, fun i hi => wpOp_mono (fun a' w' h' => any_of_headH hL f _ a' w' h'.2) (h.2 i hi).2⟩
theorem anyH_first {k0 n i : Nat} {oi : Oper} {v : Value} {L : Array Bool → Act → World → Prop} (hi : ops[i]? = some oi) (hsel : ∀ (j : Nat) (o : Oper) cs b, ops[j]? = some o → o.op ≠ .select cs b)
    (hs : sinkF md ops k0 n = true) (hc : Region.chainB md ops n = true) (hn : n < ops.size) (hk0 : k0 ≤ i) (hin : i < n)
    (hQ : ∀ d v c a w, Q (.panic c) (Act.put a d v) w → Q (.panic c) a w) (hdone : ∀ listed a w, L listed a w → ∀ j ∈ Region.ready md ops listed, n ≤ j) :
    ∀ (f : Nat) (listed : Array Bool) (a : Act) (w : World), HeadInv md ops n listed →
      (∀ j oj, ops[j]? = some oj → j ≠ i → listed.getD j true = false → (∀ e ∈ oj.after, Region.binds md e = true → e.on ≠ i) → oi.apart ops oj = true) →
      i ∈ Region.ready md ops listed → YieldsIf P ops S oi v a → S w → anyH P md ops Q S n L f (listed.setIfInBounds i true) (a.put oi.dst v) w → anyH P md ops Q S n L (f + 1) listed a w := by
  have below : ∀ (listed : Array Bool), HeadInv md ops n listed → i ∈ Region.ready md ops listed → ∀ j ∈ Region.ready md ops listed, j < n := fun listed inv hr j hj => by
    rcases Nat.lt_or_ge j n with h | h
    · exact h
    · exact absurd hj (tail_waitsF hs hc hn inv _ i rfl hk0 hin (mem_ready.1 hr).1 j h)
  intro f
  induction f with
  | zero =>
    intro listed a w inv _ hr hy hS H
    refine ⟨fun h => (by rw [h] at hr; cases hr), fun j hj => ⟨below listed inv hr j hj, ?_⟩⟩
    by_cases hji : j = i
    · subst hji; exact hy.wpOp hi hS ⟨hS, H⟩
    · have h1 := hdone _ _ _ H j (ready_mono hj hji)
      have h2 := below listed inv hr j hj
      omega
  | succ f ih =>
    intro listed a w inv hfree hr hy hS H
    have hun := (mem_ready.1 hr).1
    refine ⟨fun h => (by rw [h] at hr; cases hr), fun j hj => ⟨below listed inv hr j hj, ?_⟩⟩
    by_cases hji : j = i
    · subst hji; exact hy.wpOp hi hS ⟨hS, H⟩
    · have h1 := (H.2 j (ready_mono hj hji)).2
      obtain ⟨hjun, oj, hoj, hall⟩ := mem_ready.1 hj
      have hnot : ∀ e ∈ oj.after, Region.binds md e = true → e.on ≠ i := fun e he hb heq => by
        have h1 := hall e he hb
        rw [heq, getD_both hun] at h1
        cases h1
      have h2 := wpOp_putIf hoj (hfree j oj hoj hji hjun hnot) (fun cs b => hsel i oi cs b hi) (fun cs b => hsel j oj cs b hoj) (fun c a w => hQ _ _ c a w) hy h1
      refine wpOp_mono (fun a' w' h3 => ⟨h3.2.1, ih (listed.setIfInBounds j true) a' w' (inv.set hj (below listed inv hr j hj)) ?_ (ready_mono hr (Ne.symm hji)) h3.1 h3.2.1 ?_⟩) h2
      · intro k ok hk hki hu hno
        refine hfree k ok hk hki ?_ hno
        by_cases hjk : j = k
        · subst hjk; exact hjun
        · rw [getD_set_ne true hjk] at hu; exact hu
      · rw [Array.setIfInBounds_comm _ _ hji]
        exact h3.2.2
def held (P : Program) (ops : Array Oper) (S : World → Prop) (Lq : Act → Prop) : List Oper → Act → Prop
  | [], a => Lq a
  | o :: l, a => ∃ v, YieldsIf P ops S o v a ∧ held P ops S Lq l (a.put o.dst v)
theorem held_cons {Lq : Act → Prop} {o : Oper} {l : List Oper} {a : Act} {v : Value} (hy : YieldsIf P ops S o v a) (h : held P ops S Lq l (a.put o.dst v)) : held P ops S Lq (o :: l) a := ⟨v, hy, h⟩
theorem held_nil {Lq : Act → Prop} {a : Act} (h : Lq a) : held P ops S Lq [] a := h
theorem anyH_lex {k0 n g : Nat} {Lq : Act → Prop} {L : Array Bool → Act → World → Prop} (hsel : Region.noSelect ops = true) (hs : sinkF md ops k0 n = true) (hc : Region.chainB md ops n = true) (hn : n < ops.size)
    (hQ : ∀ d v c a w, Q (.panic c) (Act.put a d v) w → Q (.panic c) a w) (hdone : ∀ listed a w, L listed a w → ∀ j ∈ Region.ready md ops listed, n ≤ j)
    (hfin : ∀ listed a w, Region.seqB md ops (g + 1) (n - 1) listed = true → Lq a → S w → anyH P md ops Q S n L 1 listed a w) :
    ∀ (l : List Oper) (k : Nat) (listed : Array Bool) (a : Act) (w : World), (∀ j, j < l.length → l[j]? = ops[k + j]?) → k + l.length + 1 = n → k0 ≤ k → HeadInv md ops n listed →
    Region.lexHead md ops (g + 1) l.length k listed = true → held P ops S Lq l a → S w → anyH P md ops Q S n L (l.length + 1) listed a w
  | [], k, listed, a, w, _, hk, _, _, hB, h, hS => by
    obtain rfl : k = n - 1 := by simp at hk; omega
    exact hfin listed a w (by simpa [Region.lexHead] using hB) h hS
  | o :: l, k, listed, a, w, hl, hk, hk0, inv, hB, h, hS => by
    have h0 : ops[k]? = some o := by simpa using (hl 0 (by simp)).symm
    simp only [List.length_cons, Region.lexHead, Bool.and_eq_true] at hB
    simp only [List.length_cons] at hk
    have hkn : k < n := by omega
    have hr' : k ∈ Region.ready md ops listed := by simpa using hB.1.1
    obtain ⟨v, hy, hK⟩ := h
    exact anyH_first h0 (Region.noSelect_spec hsel) hs hc hn hk0 hkn hQ hdone (l.length + 1) listed a w inv (Region.free_spec h0 hB.1.2) hr' hy hS
      (anyH_lex hsel hs hc hn hQ hdone hfin l (k + 1) _ _ w (fun j hj => by have := hl (j + 1) (by simp; omega); simpa [Nat.add_assoc, Nat.add_comm 1 j] using this) (by omega) (by omega) (inv.set hr' hkn) hB.2 hK hS)
def lexTail2 (md : Region.Mode) (ops : Array Oper) (n : Nat) : Bool :=
  Region.noSelect ops && decide (n < ops.size) && sinkF md ops 1 n && Region.chainB md ops n && Region.lexHead md ops (ops.size - n + 1) (n - 2) 1 ((Array.replicate ops.size false).setIfInBounds 0 true) && decide (2 ≤ n) && Region.free md ops (Array.replicate ops.size false) 0 && (Region.ready md ops (Array.replicate ops.size false)).contains 0
theorem wp_held_tail {id : Nat} {a : Act} {w : World} {l : List Oper} (S : World → Prop) (n : Nat) (hm : P.follows .mixedOrders = true) (hB : lexTail2 .any l.toArray n = true) {o : Oper} {v : Value} (h0' : l.head? = some o)
    (hQ : ∀ d v c a w, Q (.panic c) (Act.put a d v) w → Q (.panic c) a w) (hy : Yields P l.toArray o v a) (hS : S w.drew) {on : Oper} (hon' : (l.drop (n - 1)).head? = some on)
    (h : held P l.toArray S (fun a' => ∀ W, S W → ∃ u W', Region.wanted on (yielded l.toArray a'.tmps) = true ∧ (execOp a'.eval on).run P W = .ok (.value u) W' ∧ S W' ∧ wpList P l.toArray Q (l.drop n) (a'.put on.dst u) W') ((l.take (n - 1)).drop 1) (a.put o.dst v)) : (Code.region id l.toArray true).wp P Q a w := by
  have h0 : l.toArray[0]? = some o := by rw [List.getElem?_toArray, ← List.head?_eq_getElem?]; exact h0'
  have hon : l.toArray[n - 1]? = some on := by rw [List.head?_drop] at hon'; rw [List.getElem?_toArray]; exact hon'
  simp only [lexTail2, Bool.and_eq_true, decide_eq_true_eq] at hB
  obtain ⟨⟨⟨⟨⟨⟨⟨hsel, hn⟩, hs⟩, hc⟩, hlex⟩, h1n⟩, hfree⟩, hready⟩ := hB
  have hn' : n < l.length := by simpa using hn
  have htl : ((l.take (n - 1)).drop 1).length = n - 2 := by simp; omega
  have hdl : (l.drop n).length = l.toArray.size - n := by simp
  have inv0 : HeadInv .any l.toArray n (Array.replicate l.toArray.size false) :=
    ⟨by simp, fun j oj _ hl => (by rw [getD_replicate_false] at hl; cases hl), fun t _ ht => getD_in (by simpa using ht) (getD_replicate_false _ _)⟩
  have inv1 := inv0.set (i := 0) (by simpa using hready) (by omega)
  have H := anyH_lex (P := P) (md := .any) (S := S) (Q := Q) (k0 := 1) (g := l.toArray.size - n) (L := fun listed a' w' => Region.seqB .any l.toArray (l.toArray.size - n) n listed = true ∧ wpList P l.toArray Q (l.drop n) a' w') hsel hs hc hn hQ (fun listed a w hL => seqB_ready hL.1)
    (fun listed a' w' hseq hLq hW => by
      simp only [Region.seqB, Bool.and_eq_true, decide_eq_true_eq] at hseq
      obtain ⟨u, W', hwant, hrun, hS', hrest⟩ := hLq w' hW
      refine ⟨by rw [hseq.1]; simp, fun i hi => ?_⟩
      rw [hseq.1] at hi
      obtain rfl : i = n - 1 := by simpa using hi
      refine ⟨by omega, ?_⟩
      unfold wpOp
      simp only [hon, hwant, if_true, Oper.wp, hrun, Oper.upon]
      refine .inl ⟨hS', ?_, hrest⟩
      rw [show n - 1 + 1 = n by omega] at hseq
      exact hseq.2)
    ((l.take (n - 1)).drop 1) 1 _ (a.put o.dst v) w.drew (fun j hj => by
    have hj' : j < n - 2 := by rw [htl] at hj; exact hj
    rw [List.getElem?_drop, List.getElem?_take, if_pos (by omega)]; simp) (by rw [htl]; omega) (Nat.le_refl _) inv1 (by rw [htl]; exact hlex) h hS
  refine wp_region_any hm ?_
  have := any_of_headH (g := l.toArray.size - n) (fun listed a' w' hL => by
    have := wpAny_of_seq (md := .any) (Q' := Q) (l.drop n) n listed a' w' (fun j => by simp [List.getElem?_drop]) (by rw [hdl]; exact hL.1) hL.2
    rwa [hdl] at this) _ _ _ _ H
  rw [htl] at this
  have := wpAny_take (md := .any) (fuel := n - 2 + 1 + (l.toArray.size - n)) h0 hsel hfree hready (fun c a w => hQ _ _ c a w) hy this
  rw [show n - 2 + 1 + (l.toArray.size - n) + 1 = l.toArray.size by omega] at this
  exact this
end
end Go.Proofs.YtonjofjdmlblfaaDoor.Q
